/- Sessions of the document: how one lies in memory; peer, end, State, Abort walked. -/
import Derived.Test.YtfimakplmkbbjaaSx
namespace Go.Proofs.Ytfimakplmkbbjaa.Sr
open Go.RowKit Go.Maps Go.Proofs.Ytfimakplmkbbjaa.Mp Go.Proofs.Ytfimakplmkbbjaa.Mq Go.Proofs.Ytfimakplmkbbjaa.Sp Go.Proofs.Ytfimakplmkbbjaa.Sw Go.Proofs.YtfimakplmkbbjaaW.PrintWords Go.Proofs.YtfimakplmkbbjaaW.PrintLast Go.Proofs.YtfimakplmkbbjaaW.PrintMore
set_option linter.unusedVariables false
set_option linter.unusedSimpArgs false
variable {w w' : World} {B r : Nat} {ok : Nat → Prop} {σ : St}

def sinceOf (σ : St) (x : Int) : Int := match σ.wt x with | none => 0 | some y => y.1
/-- One of the sixteen places. -/
def WtR (w : World) (B : Nat) (ok : Nat → Prop) (σ : St) (cs : Array Value) (i : Nat) : Prop :=
  cs[6 + i * 3]? = some (.bool (isB σ (i : Int))) ∧ cs[6 + i * 3 + 1]? = some (.int .i64 (sinceOf σ (i : Int))) ∧ ∃ v, cs[6 + i * 3 + 2]? = some v ∧ (Kd.int .i64).R 3 w B ok v (kindsOf σ (i : Int))
/-- A session of the document. -/
def RS (w : World) (B r : Nat) (ok : Nat → Prop) (σ : St) : Prop :=
  ∃ cs : Array Value, w.heap[r]? = some (.cells cs 39 (0, 0)) ∧ cs.size = 54 ∧ cs[0]? = some (.int .i64 σ.self) ∧ cs[1]? = some (.int .i64 σ.parties) ∧ cs[2]? = some (.int .i64 σ.patience) ∧ cs[3]? = some (.int .i64 σ.now) ∧ cs[4]? = some (.int .i64 σ.phase) ∧ cs[5]? = some (.int .i64 σ.why) ∧
    (σ.phase = 0 → ∀ i, i < 16 → WtR w B ok σ cs i)
def DidR (B r : Nat) (ok : Nat → Prop) (w : World) (R : Int × St) (e : Ending) (w' : World) : Prop := e = .returned (.int .i64 R.1) ∧ RS w' B r ok R.2 ∧ Fr B r r w w'
theorem WtR.step {cs : Array Value} {i : Nat} (h : WtR w B ok σ cs i) (hk : ∀ k, ok k → k < w.heap.size → w'.heap[k]? = w.heap[k]?) : WtR w' B ok σ cs i := by
  obtain ⟨h1, h2, v, h3, h4⟩ := h
  exact ⟨h1, h2, v, h3, Kd.R_step h4 hk⟩
theorem RS.lt (h : RS w B r ok σ) : r < w.heap.size := by obtain ⟨cs, h, _⟩ := h; exact blk_lt h
theorem RS.kept {S : Nat → Prop} (h : RS w B r ok σ) (hk : Kept w w' S) (hr : ¬ S r) (ho : ∀ k, ok k → ¬ S k) : RS w' B r ok σ := by
  obtain ⟨cs, h1, h2, h3, h4, h5, h6, h7, h8, h9⟩ := h
  exact ⟨cs, (hk.2 r (blk_lt h1) hr).trans h1, h2, h3, h4, h5, h6, h7, h8, fun hp i hi => (h9 hp i hi).step (fun k hok hlt => hk.2 k hlt (ho k hok))⟩
theorem RS.below (h : RS w B r ok σ) (hk : Below w.heap.size w w') : RS w' B r ok σ := h.kept (Kept.of_below hk (fun _ => False)) (fun h => h) (fun _ _ h => h)
theorem RS.cells (h : RS w B r ok σ) : w.cell? ⟨r, 0, none⟩ = some (.int .i64 σ.self) ∧ w.cell? ⟨r, 1, none⟩ = some (.int .i64 σ.parties) ∧ w.cell? ⟨r, 2, none⟩ = some (.int .i64 σ.patience) ∧ w.cell? ⟨r, 3, none⟩ = some (.int .i64 σ.now) ∧ w.cell? ⟨r, 4, none⟩ = some (.int .i64 σ.phase) ∧ w.cell? ⟨r, 5, none⟩ = some (.int .i64 σ.why) := by
  obtain ⟨cs, h1, h2, h3, h4, h5, h6, h7, h8, h9⟩ := h
  exact ⟨(blk_cell h1 0).trans h3, (blk_cell h1 1).trans h4, (blk_cell h1 2).trans h5, (blk_cell h1 3).trans h6, (blk_cell h1 4).trans h7, (blk_cell h1 5).trans h8⟩
theorem RS.frozen (h : RS w B r ok σ) (j : Nat) : w.frozen? ⟨r, j, none⟩ = false := by obtain ⟨cs, h1, _⟩ := h; exact blk_frozen h1 j
theorem RS.at_ (h : RS w B r ok σ) (hp : σ.phase = 0) (i : Nat) (hi : i < 16) : w.cell? ⟨r, 6 + i * 3, none⟩ = some (.bool (isB σ (i : Int))) ∧ w.cell? ⟨r, 6 + i * 3 + 1, none⟩ = some (.int .i64 (sinceOf σ (i : Int))) ∧ ∃ v, w.cell? ⟨r, 6 + i * 3 + 2, none⟩ = some v ∧ (Kd.int .i64).R 3 w B ok v (kindsOf σ (i : Int)) := by
  obtain ⟨cs, h1, h2, h3, h4, h5, h6, h7, h8, h9⟩ := h
  obtain ⟨a, b, v, c, d⟩ := h9 hp i hi
  exact ⟨(blk_cell h1 _).trans a, (blk_cell h1 _).trans b, v, (blk_cell h1 _).trans c, d⟩
theorem set_get (cs : Array Value) (j : Nat) (v : Value) (k : Nat) (h : k ≠ j) : (cs.setIfInBounds j v)[k]? = cs[k]? := by
  rw [Array.getElem?_setIfInBounds_ne (Ne.symm h)]
theorem set_same (cs : Array Value) (j : Nat) (v : Value) (h : j < cs.size) : (cs.setIfInBounds j v)[j]? = some v := by
  simp [h]
/-- What stands below the places is turned. -/
theorem RS.set (h : RS w B r ok σ) (hok : ¬ ok r) (j : Nat) (v : Value) (σ' : St) (hj : j < 6) (hw : σ'.phase = 0 → σ.phase = 0 ∧ σ'.wt = σ.wt)
    (h0 : some (.int .i64 σ'.self) = (if j = 0 then some v else some (.int .i64 σ.self))) (h1 : some (.int .i64 σ'.parties) = (if j = 1 then some v else some (.int .i64 σ.parties))) (h2 : some (.int .i64 σ'.patience) = (if j = 2 then some v else some (.int .i64 σ.patience)))
    (h3 : some (.int .i64 σ'.now) = (if j = 3 then some v else some (.int .i64 σ.now))) (h4 : some (.int .i64 σ'.phase) = (if j = 4 then some v else some (.int .i64 σ.phase))) (h5 : some (.int .i64 σ'.why) = (if j = 5 then some v else some (.int .i64 σ.why))) : RS (w.setCell ⟨r, j, none⟩ v) B r ok σ' := by
  obtain ⟨cs, k1, k2, c0, c1, c2, c3, c4, c5, k9⟩ := h
  have key : ∀ (i : Nat) (x : Value), cs[i]? = some x → (cs.setIfInBounds j v)[i]? = (if j = i then some v else some x) := by
    intro i x hx
    by_cases e : j = i
    · subst e; rw [if_pos rfl]; exact set_same _ _ _ (by omega)
    · rw [if_neg e, set_get _ _ _ _ (Ne.symm e), hx]
  refine ⟨cs.setIfInBounds j v, blk_put k1 j v rfl, by simp [k2], (key 0 _ c0).trans h0.symm, (key 1 _ c1).trans h1.symm, (key 2 _ c2).trans h2.symm, (key 3 _ c3).trans h3.symm, (key 4 _ c4).trans h4.symm, (key 5 _ c5).trans h5.symm, fun hp i hi => ?_⟩
  obtain ⟨hp0, hwt⟩ := hw hp
  have hh := (k9 hp0 i hi).step (w' := w.setCell ⟨r, j, none⟩ v) (fun k hk _ => Below.heap_setCell w _ v k (by rintro rfl; exact hok hk))
  obtain ⟨a, b, x, c, d⟩ := hh
  have e1 : isB σ' (i : Int) = isB σ (i : Int) := by unfold isB; rw [hwt]
  have e2 : sinceOf σ' (i : Int) = sinceOf σ (i : Int) := by unfold sinceOf; rw [hwt]
  have e3 : kindsOf σ' (i : Int) = kindsOf σ (i : Int) := by unfold kindsOf; rw [hwt]
  unfold WtR
  rw [e1, e2, e3, set_get _ _ _ _ (by omega), set_get _ _ _ _ (by omega), set_get _ _ _ _ (by omega)]
  exact ⟨a, b, x, c, d⟩

set_option maxRecDepth 100000 in
set_option maxHeartbeats 400000 in
theorem peer_calls (h : RS w B r ok σ) (x : Int) :
    Calls Try.prog 21 #[.pointer (some ⟨r, 0, none⟩), .int .i64 x] w fun e w' => e = .returned (.bool (peerB σ x)) ∧ w' = w := by
  obtain ⟨c0, c1, _⟩ := h.cells
  clear h
  have hpb : peerB σ x = (decide (0 ≤ x) && decide (x < σ.parties) && decide (x ≠ σ.self) && (decide (σ.self = 0) || decide (x = 0))) := rfl
  have HPB := Aside0.mk hpb
  clear hpb
  by_cases h0 : 0 ≤ x
  · by_cases h1 : x < σ.parties
    · by_cases h2 : x = σ.self
      · have h2b : (x != σ.self) = false := by rw [bne_eq_false_iff_eq]; exact h2
        have H := Aside0.mk (And.intro h0 (And.intro h1 h2))
        clear h2
        go_enter Try.func21, Try.ntmps21
        go_wp2_with fail
        go_ret
        exact ⟨by rw [HPB.out]; simp [H.out.2.2], rfl⟩
      · have h2b : (x != σ.self) = true := by rw [bne_iff_ne]; exact h2
        by_cases h3 : σ.self = 0
        · have h3b : (σ.self == 0) = true := by rw [beq_iff_eq]; exact h3
          have H := Aside0.mk (And.intro h0 (And.intro h1 (And.intro h2 h3)))
          clear h2 h3
          go_enter Try.func21, Try.ntmps21
          go_wp2_with fail
          go_ret
          exact ⟨by rw [HPB.out]; obtain ⟨a, b, c, d⟩ := H.out; rw [decide_eq_true a, decide_eq_true b, decide_eq_true c, decide_eq_true d]; simp, rfl⟩
        · have h3b : (σ.self == 0) = false := by rw [beq_eq_false_iff_ne]; exact h3
          have H := Aside0.mk (And.intro h0 (And.intro h1 (And.intro h2 h3)))
          clear h2 h3
          go_enter Try.func21, Try.ntmps21
          go_wp2_with fail
          go_ret
          exact ⟨by rw [HPB.out]; obtain ⟨a, b, c, d⟩ := H.out; rw [decide_eq_true a, decide_eq_true b, decide_eq_true c, decide_eq_false d]; simp [Bool.beq_eq_decide_eq], rfl⟩
    · go_enter Try.func21, Try.ntmps21
      go_wp2_with fail
      go_ret
      exact ⟨by rw [HPB.out, decide_eq_false (by omega : ¬ x < σ.parties)]; simp, rfl⟩
  · go_enter Try.func21, Try.ntmps21
    go_wp2_with fail
    go_ret
    exact ⟨by rw [HPB.out, decide_eq_false (by omega : ¬ 0 ≤ x)]; simp, rfl⟩
theorem state_calls (h : RS w B r ok σ) :
    Calls Try.prog 12 #[.pointer (some ⟨r, 0, none⟩)] w fun e w' => e = .returned (.tuple #[.int .i64 σ.phase, .int .i64 σ.why]) ∧ Drawn0 w w' := by
  obtain ⟨_, _, _, _, c0, c1⟩ := h.cells
  clear h
  go_enter Try.func12, Try.ntmps12
  go_wp2_with fail
  go_quiet (fail)
  go_wp2_with fail
  go_ret2
  exact ⟨rfl, ⟨⟨_, rfl⟩⟩⟩
set_option maxRecDepth 100000 in
set_option maxHeartbeats 400000 in
theorem end_calls (h : RS w B r ok σ) (hB : B ≤ r) (hok : ¬ ok r) (ph y : Int) (hph : ph ≠ 0) :
    Calls Try.prog 33 #[.pointer (some ⟨r, 0, none⟩), .int .i64 ph, .int .i64 y] w fun e w' => e = .returned (.tuple #[]) ∧ RS w' B r ok (overS σ ph y) ∧ Fr B r r w w' := by
  have h1 := h.set hok 4 (.int .i64 ph) { σ with phase := ph } (by omega) (fun e => absurd e hph) rfl rfl rfl rfl rfl rfl
  have h2 := h1.set hok 5 (.int .i64 y) (overS σ ph y) (by omega) (fun e => absurd e hph) rfl rfl rfl rfl rfl rfl
  obtain ⟨_, _, _, _, c4, c5⟩ := h.cells
  have f4 := h.frozen 4
  have f5 := h.frozen 5
  obtain ⟨_, _, _, _, _, d5⟩ := h1.cells
  have g5 := h1.frozen 5
  have H2 := Aside0.mk h2
  have HPH := Aside0.mk hph
  clear h h1 h2 hph
  go_enter Try.func33, Try.ntmps33
  go_wp2_with fail
  go_end0
  exact ⟨rfl, H2.out, ((Fr.refl B r r w).set hB 4 _).set hB 5 _⟩
set_option maxRecDepth 100000 in
set_option maxHeartbeats 400000 in
theorem abort_calls (h : RS w B r ok σ) (hB : B ≤ r) (hok : ¬ ok r) (y : Int) :
    Calls Try.prog 28 #[.pointer (some ⟨r, 0, none⟩), .int .i64 y] w fun e w' => DidR B r ok w (abortS σ y) e w' := by
  obtain ⟨_, _, _, _, c4, c5⟩ := h.cells
  have H := Aside0.mk h
  clear h
  unfold abortS
  by_cases h0 : σ.phase = 0
  · have hb0 : (σ.phase != 0) = false := by rw [bne_eq_false_iff_eq]; exact h0
    rw [if_neg (by omega)]
    by_cases h1 : y < 1
    · rw [if_pos (.inl h1)]
      clear h0
      go_enter Try.func28, Try.ntmps28
      go_wp2_with fail
      go_ret
      exact ⟨rfl, H.out, Fr.refl _ _ _ _⟩
    · by_cases h2 : y > 1000
      · rw [if_pos (.inr h2)]
        clear h0
        go_enter Try.func28, Try.ntmps28
        go_wp2_with fail
        go_ret
        exact ⟨rfl, H.out, Fr.refl _ _ _ _⟩
      · rw [if_neg (by omega)]
        clear h0
        go_enter Try.func28, Try.ntmps28
        go_wp2_with fail
        refine (end_calls H.out hB hok 2 y (by decide)).mono ?_
        rintro e w1 ⟨rfl, hp, hf⟩
        have HP := Aside0.mk hp
        have HF := Aside0.mk hf
        clear hp hf
        go_wp2_with fail
        go_ret
        exact ⟨rfl, HP.out, HF.out⟩
  · have hb0 : (σ.phase != 0) = true := by rw [bne_iff_ne]; exact h0
    rw [if_pos h0]
    clear h0
    go_enter Try.func28, Try.ntmps28
    go_wp2_with fail
    go_ret
    exact ⟨rfl, H.out, Fr.refl _ _ _ _⟩
end Go.Proofs.Ytfimakplmkbbjaa.Sr
