/- Sessions of the program: Take walked. -/
import Derived.Test.YtfimakplmkbbjaaSt
import Derived.Test.YtfimakplmkbbjaaPSessionScriptsx1
namespace Go.Proofs.Ytfimakplmkbbjaa.Sx
open Go.RowKit Go.Maps Go.Proofs.Ytfimakplmkbbjaa.PSessionScripts Go.Proofs.Ytfimakplmkbbjaa.Mp Go.Proofs.Ytfimakplmkbbjaa.Mq Go.Proofs.Ytfimakplmkbbjaa.Sp Go.Proofs.Ytfimakplmkbbjaa.Sw Go.Proofs.Ytfimakplmkbbjaa.St Go.Proofs.YtfimakplmkbbjaaW.PrintWords Go.Proofs.YtfimakplmkbbjaaW.PrintLast Go.Proofs.YtfimakplmkbbjaaW.PrintMore
set_option linter.unusedVariables false
set_option linter.unusedSimpArgs false
variable {w : World} {B N p b : Nat} {ok : Nat → Prop} {σ : St}

theorem wrap64_small {x : Int} (h0 : -9223372036854775808 ≤ x) (h1 : x < 9223372036854775808) : wrap64 x = x := by
  unfold wrap64
  omega
theorem rd_get (xs : List Int) (j : Nat) (h : j < xs.length) : rd xs (j : Int) = xs[j] := by
  simp only [rd, Int.toNat_natCast, List.getD_eq_getElem?_getD, List.getElem?_eq_getElem h, Option.getD_some]
theorem ix_l0 (l : List Int) (a : Int) (hl : l.length ≤ 17592186044416) : ∀ m i, i + m = l.length → ∃ r, slices_Index_int_int.l0 (m + 1) l a (l.length : Int) (i : Int) = some r ∧ decide (r ≥ 0) = decide (a ∈ l.drop i) := by
  intro m
  induction m with
  | zero =>
    intro i hi
    refine ⟨-1, ?_, ?_⟩
    · unfold slices_Index_int_int.l0
      rw [if_neg (by omega)]
    · rw [List.drop_of_length_le (by omega)]; rfl
  | succ m ih =>
    intro i hi
    have hd : l.drop i = rd l (i : Int) :: l.drop (i + 1) := by rw [List.drop_eq_getElem_cons (by omega : i < l.length), rd_get l i (by omega)]
    unfold slices_Index_int_int.l0
    rw [if_pos (by omega), if_pos (by omega), if_pos (by omega), hd]
    by_cases e : a = rd l (i : Int)
    · rw [if_pos e]
      exact ⟨_, rfl, by rw [decide_eq_true (by omega : (i : Int) ≥ 0), decide_eq_true (by rw [← e]; simp)]⟩
    · rw [if_neg e, wrap64_small (by omega) (by omega), show (i : Int) + 1 = ((i + 1 : Nat) : Int) by omega]
      obtain ⟨r, h1, h2⟩ := ih (i + 1) (by omega)
      refine ⟨r, h1, ?_⟩
      rw [h2]
      congr 1
      rw [List.mem_cons, eq_iff_iff]
      exact ⟨.inr, fun h => h.resolve_left e⟩
theorem has_f (l : List Int) (a : Int) (hl : l.length ≤ 17592186044416) : slices_Contains_int_int.f (l.length + 1) l a = some (decide (a ∈ l)) := by
  obtain ⟨r, h1, h2⟩ := ix_l0 l a hl l.length 0 (by omega)
  unfold slices_Contains_int_int.f slices_Index_int_int.f
  rw [show ((0 : Nat) : Int) = 0 from rfl] at h1
  rw [h1]
  show some (decide (r ≥ 0)) = _
  rw [h2, List.drop_zero]
theorem has_held {W w : World} (h : Held W w) {A : Option Addr} {c : Nat} {l : List Int} (hr : Kd.C (Kd.int .i64) W A l.length l) (hc : l.length ≤ c) (hl : l.length ≤ 17592186044416) (a : Int) (r : Bool) (he : decide (a ∈ l) = r) :
    Calls Try.prog 32 #[.slice A l.length c, .int .i64 a] w fun e w' => e = .returned (.bool r) ∧ Held W w' :=
  (slices_Contains_int_int.calls (l.length + 1) A c l a r w (Kd.C_below hr h.out) hc (by rw [has_f l a hl, he])).mono fun e w' ⟨h1, h2⟩ => ⟨h1, ⟨h.out.trans (h2.below.mono h.out.size)⟩⟩

/-- A message, so far as a session looks at it. -/
def msg (k a : Int) : Value := .agg #[.int .i64 k, .int .i64 a, .int .i64 0, .int .i64 0, .slice none 0 0, .slice none 0 0, .slice none 0 0]
def msgC (k a : Int) : Array Value := #[.int .i64 k, .int .i64 a, .int .i64 0, .int .i64 0, .slice none 0 0, .slice none 0 0, .slice none 0 0]

theorem field56 (t : Int) (A : Option Addr) (n c : Nat) (W : World) : (Instr.field 56 (.agg #[.int .i64 t, .slice A n c]) 1).run Try.prog W = .ok (.slice A n c) W := by
  simp [Instr.field, run_underlying Try.underlying56, asAgg, go_sem]
theorem Lies.put_ {w w' : World} {B b : Nat} {ok : Nat → Prop} {f : Int → Option Value} {wt : Int → Option (Int × List Int)} (h : Lies w B ok f wt) (hg : w.grownBy w' (some b)) (hb : ¬ ok b) (x : Int) (u : Option Value) (y : Option (Int × List Int))
    (hu : match y with | none => u = none | some y => ∃ v, u = some (.agg #[.int .i64 y.1, v]) ∧ (Kd.int .i64).R 3 w B ok v y.2) : Lies w' B ok (upd f x u) (setW wt x y) := by
  have h1 : Lies w B ok (upd f x u) (setW wt x y) := by
    intro z hz
    unfold Mp.upd setW
    by_cases e : z = x
    · simp only [e, if_pos]
      exact hu
    · simp only [e, if_neg, if_false]
      exact h z hz
  exact h1.step (fun k hk hlt => hg.block k hlt (fun e => by cases e; exact hb hk))
theorem Lies.del_ {w w' : World} {B b : Nat} {ok : Nat → Prop} {f : Int → Option Value} {wt : Int → Option (Int × List Int)} (h : Lies w B ok f wt) (hg : w.grownBy w' (some b)) (hb : ¬ ok b) {x : Int} : Lies w' B ok (upd f x none) (setW wt x none) :=
  Lies.put_ h hg hb x none none rfl
theorem take_cells {W w : World} {g p b : Nat} {k a : Int} {σ : St} (h : Held W w) (hp : W.heap[p]? = some (.cells (cellsP σ b) 51 (0, 0))) (hb : W.heap[g]? = some (.cells (msgC k a) 62 (0, 0))) :
    w.cell? ⟨p, 6, none⟩ = some (.map (some b)) ∧ w.cell? ⟨g, 0, none⟩ = some (.int .i64 k) :=
  ⟨blk_cell (blk_below hp h.out) 6, blk_cell (blk_below hb h.out) 0⟩
set_option maxRecDepth 100000 in
set_option maxHeartbeats 1000000 in
theorem take_calls (h : PS w B N p b ok σ) (hI : Inv σ) (hB : B ≤ p) (hBb : B ≤ b) (hokb : ¬ ok b) (x k a : Int) :
    Calls Try.prog 22 #[.pointer (some ⟨p, 0, none⟩), .int .i64 x, msg k a] w fun e w' => Did B N p b ok w (takeS σ x k a) e w' := by
  obtain ⟨R, hR⟩ : ∃ R, R = takeS σ x k a := ⟨_, rfl⟩
  rw [← hR]
  unfold takeS at hR
  obtain ⟨w1, hw1⟩ : ∃ w1, w1 = w.alloc (.cells (msgC k a) 62) := ⟨_, rfl⟩
  have hb1 : Below w.heap.size w w1 := by rw [hw1]; exact below_alloc (Below.refl _ _) _
  have hBw : B ≤ w.heap.size := by have := blk_lt h.1; omega
  have h1 := h.below hb1
  have k1 : w1.heap[w.heap.size]? = some (.cells (msgC k a) 62 (0, 0)) := by rw [hw1]; exact blk_new w _
  have F1 := Aside0.mk ((Fr.refl B p b w).below hBw hb1)
  have c4 : w1.cell? ⟨p, 4, none⟩ = some (.int .i64 σ.phase) := blk_cell h1.1 4
  have m0 : w1.cell? ⟨w.heap.size, 0, none⟩ = some (.int .i64 k) := blk_cell k1 0
  have m1 : w1.cell? ⟨w.heap.size, 1, none⟩ = some (.int .i64 a) := blk_cell k1 1
  have H := Aside0.mk h1
  have HI := Aside0.mk hI
  have HK1 := Aside0.mk k1
  unfold msgC at hw1
  have HW1 := Aside0.mk hw1
  have C4 := Aside0.mk c4
  rw [hw1] at c4 m0 m1
  clear h h1 hI hb1 k1 hw1
  by_cases h0 : σ.phase = 0
  · have hb0 : (σ.phase != 0) = false := by rw [bne_eq_false_iff_eq]; exact h0
    rw [if_neg (by omega)] at hR
    clear h0
    cases hp : peerB σ x with
    | false =>
      rw [if_pos hp] at hR
      have HP := Aside0.mk hp
      have HR := Aside0.mk hR
      clear hp hR
      unfold msg
      go_enter Try.func22, Try.ntmps22
      go_wp2_with fail
      rw [← HW1.out]
      refine (peer_calls H.out x).mono ?_
      rintro e w2 ⟨rfl, rfl⟩
      rw [HP.out]
      go_wp2_with fail
      go_ret
      rw [HR.out]
      exact ⟨rfl, H.out, F1.out⟩
    | true =>
      rw [if_neg (by rw [hp]; simp)] at hR
      have HP := Aside0.mk hp
      clear hp
      by_cases hk : k = 11
      · rw [if_pos hk] at hR
        have hkb : (k == 11) = true := by rw [beq_iff_eq]; exact hk
        clear hk
        have M1 := Aside0.mk (show w1.cell? ⟨w.heap.size, 1, none⟩ = some (.int .i64 a) from blk_cell HK1.out 1)
        have M0 := Aside0.mk (show w1.cell? ⟨w.heap.size, 0, none⟩ = some (.int .i64 k) from blk_cell HK1.out 0)
        have key : ∀ y, y = abortOf a → Calls Try.prog 30 #[.pointer (some ⟨p, 0, none⟩), .int .i64 2, .int .i64 y] w1 fun e w' => e = .returned (.tuple #[]) ∧ Did B N p b ok w R (.returned (.int .i64 0)) w' := by
          intro y hy
          refine (over_calls H.out hB hBb 2 y).mono ?_
          rintro e w9 ⟨rfl, hp9, hf9⟩
          refine ⟨rfl, ?_⟩
          rw [hR, ← hy]
          exact ⟨rfl, hp9, F1.out.trans hf9⟩
        have KEY := Aside0.mk key
        clear key hR
        unfold msg
        by_cases h1 : 1 ≤ a
        · by_cases h2 : a ≤ 1000
          · have hy : abortOf a = a := if_pos ⟨h1, h2⟩
            have HY := Aside0.mk hy
            clear hy
            go_enter Try.func22, Try.ntmps22
            go_wp2_with fail
            rw [← HW1.out]
            refine (peer_calls H.out x).mono ?_
            rintro e w2 ⟨rfl, rfl⟩
            rw [HP.out]
            have m1' := M1.out
            have m0' := M0.out
            go_wp2_with fail
            refine (KEY.out a HY.out.symm).mono ?_
            rintro e w9 ⟨rfl, hd⟩
            have HD := Aside0.mk hd
            clear hd
            go_wp2_with fail
            go_ret
            exact HD.out
          · have hy : abortOf a = 18 := if_neg (fun h => h2 h.2)
            have HY := Aside0.mk hy
            clear hy
            go_enter Try.func22, Try.ntmps22
            go_wp2_with fail
            rw [← HW1.out]
            refine (peer_calls H.out x).mono ?_
            rintro e w2 ⟨rfl, rfl⟩
            rw [HP.out]
            have m1' := M1.out
            have m0' := M0.out
            go_wp2_with fail
            refine (KEY.out 18 HY.out.symm).mono ?_
            rintro e w9 ⟨rfl, hd⟩
            have HD := Aside0.mk hd
            clear hd
            go_wp2_with fail
            go_ret
            exact HD.out
        · have hy : abortOf a = 18 := if_neg (fun h => h1 h.1)
          have HY := Aside0.mk hy
          clear hy
          go_enter Try.func22, Try.ntmps22
          go_wp2_with fail
          rw [← HW1.out]
          refine (peer_calls H.out x).mono ?_
          rintro e w2 ⟨rfl, rfl⟩
          rw [HP.out]
          have m1' := M1.out
          have m0' := M0.out
          go_wp2_with fail
          refine (KEY.out 18 HY.out.symm).mono ?_
          rintro e w9 ⟨rfl, hd⟩
          have HD := Aside0.mk hd
          clear hd
          go_wp2_with fail
          go_ret
          exact HD.out
      · rw [if_neg hk] at hR
        have hkb : (k == 11) = false := by rw [beq_eq_false_iff_ne]; exact hk
        have M0 := Aside0.mk (show w1.cell? ⟨w.heap.size, 0, none⟩ = some (.int .i64 k) from blk_cell HK1.out 0)
        clear hk
        have hxx := peerB_iff.1 HP.out
        have hx : I64 x := I64.mk (by omega) (by have := HI.out.p1; omega)
        obtain ⟨n, f, s, hn, hm, hl⟩ := H.out.2
        obtain ⟨t, A, c, hV, hc, hlen, hcr⟩ : ∃ t A c, (f x).getD (.agg #[.int .i64 0, .slice none 0 0]) = .agg #[.int .i64 t, .slice A (kindsOf σ x).length c] ∧ (kindsOf σ x).length ≤ c ∧ (kindsOf σ x).length ≤ 17592186044416 ∧ Kd.C (Kd.int .i64) w1 A (kindsOf σ x).length (kindsOf σ x) := by
          have hlx := hl x hx
          unfold kindsOf
          cases hy : σ.wt x with
          | none =>
            rw [hy] at hlx
            rw [hlx]
            exact ⟨0, none, 0, rfl, Nat.le_refl _, by simp, Kd.C_nil _ _⟩
          | some y =>
            rw [hy] at hlx
            obtain ⟨v, hv, hr⟩ := hlx
            obtain ⟨A, c, rfl, hc, hcr⟩ := Kd.R_reads hr
            rw [hv]
            exact ⟨_, A, c, rfl, hc, (HI.out.w x y hy).2.2.2.2, hcr⟩
        obtain ⟨L, hL⟩ : ∃ L, L = kindsOf σ x := ⟨_, rfl⟩
        rw [← hL] at hV hc hlen hcr hR
        have hrun : ∀ W, Held w1 W → (Instr.lookup 49 (.map (some b)) (.int .i64 x) false).run Try.prog W = .ok (.agg #[.int .i64 t, .slice A L.length c]) W := fun W hW => by
          rw [← hV]
          exact run_look law Try.underlying3 Try.underlying49 (Try.zeroValue56 W) (hm.below hW.out) x hx
        have HRUN := Aside0.mk hrun
        have HCR := Aside0.mk hcr
        have HX := Aside0.mk hx
        have HM := Aside0.mk hm
        have HL := Aside0.mk hl
        have HN := Aside0.mk hn
        obtain ⟨r, hr⟩ : ∃ r, decide (k ∈ L) = r := ⟨_, rfl⟩
        have HLL := Aside0.mk hL
        have hfld := field56 t A L.length c
        have HRR := Aside0.mk hr
        have HR := Aside0.mk hR
        clear hrun hcr hm hl hn hV hxx hx hr hR hL
        unfold msg
        go_enter Try.func22, Try.ntmps22
        go_wp2_with fail
        rw [← HW1.out]
        refine (peer_calls H.out x).mono ?_
        rintro e w2 ⟨rfl, rfl⟩
        rw [HP.out]
        have m0' := M0.out
        clear c4 m0 m1
        go_wp2_with fail
        clear m0'
        have hhd : Held w2 w2.drew := ⟨below_drew (Below.refl _ _)⟩
        obtain ⟨q0, q1⟩ := take_cells hhd H.out.1 HK1.out
        have q2 := HRUN.out _ hhd
        go_region_held3 (fun w' => w'.cell? ⟨p, 6, none⟩ = some (.map (some b)) ∧ w'.cell? ⟨w.heap.size, 0, none⟩ = some (.int .i64 k) ∧ (Instr.lookup 49 (.map (some b)) (.int .i64 x) false).run Try.prog w' = .ok (.agg #[.int .i64 t, .slice A L.length c]) w' ∧ Held w2 w') (refine ⟨?_, ?_, ?_, ?_⟩ <;> assumption)
          (first | (go_at_call 32; refine (has_held (by assumption : Held w2 _) HCR.out hc hlen k r HRR.out).mono ?_; rintro e w' ⟨rfl, hH⟩; obtain ⟨q0', q1'⟩ := take_cells hH H.out.1 HK1.out; have q2' := HRUN.out _ hH))
        all_goals (
          have hH : Held w2 _ := (by assumption)
          have HH := Aside0.mk hH
          have c6 := (take_cells hH H.out.1 HK1.out).1
          cases r with
          | true =>
            have hm9 := HM.out.below hH.out
            have HM9 := Aside0.mk hm9
            clear hm9
            go_wp2_with ((with_reducible refine gate_builtin (b := .delete) (xs := #[.tmp 53, .tmp 54]) rfl ?_); refine wp_delete law Try.underlying3 Try.underlying49 HM9.out rfl (.tmp 53) (.tmp 54) rfl rfl x rfl HX.out ?_; intro w9 hm9 hg9; have HMM := Aside0.mk hm9; have HG9 := Aside0.mk hg9; clear hm9 hg9)
            go_ret
            rw [HR.out, if_pos (of_decide_eq_true HRR.out)]
            refine ⟨rfl, ⟨?_, n, _, _, HN.out, HMM.out, Lies.del_ (HL.out.step (fun k _ hlt => HH.out.out.block k hlt)) HG9.out hokb⟩, ?_⟩
            · rw [HG9.out.block p (by have := blk_lt H.out.1; have := HH.out.out.size; omega) (by intro e; exact H.out.ne (Option.some.inj e).symm), HH.out.out.block p (blk_lt H.out.1), H.out.1]
              rfl
            · exact (F1.out.below (by have := blk_lt H.out.1; omega) HH.out.out).grown (by have := blk_lt H.out.1; have := HH.out.out.size; omega) HG9.out (fun k hk => by cases hk; exact ⟨.inr rfl, hBb⟩)
          | false =>
            go_wp2_with fail
            refine (over_calls (H.out.below hH.out) hB hBb 2 18).mono ?_
            rintro e w9 ⟨rfl, hp9, hf9⟩
            have HP9 := Aside0.mk hp9
            have HF9 := Aside0.mk hf9
            clear hp9 hf9
            go_wp2_with fail
            go_ret
            rw [HR.out, if_neg (of_decide_eq_false HRR.out)]
            exact ⟨rfl, HP9.out, (F1.out.below (by have := blk_lt H.out.1; omega) HH.out.out).trans HF9.out⟩)
  · have hb0 : (σ.phase != 0) = true := by rw [bne_iff_ne]; exact h0
    rw [if_pos h0] at hR
    subst hR
    clear h0
    unfold msg
    go_enter Try.func22, Try.ntmps22
    go_wp2_with fail
    rw [← HW1.out]
    go_ret
    exact ⟨rfl, H.out, F1.out⟩
end Go.Proofs.Ytfimakplmkbbjaa.Sx
