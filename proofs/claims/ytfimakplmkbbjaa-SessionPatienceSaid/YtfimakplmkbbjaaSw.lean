/- Sessions of the program: peer, over, State, Abort, Finish walked. -/
import Derived.Test.YtfimakplmkbbjaaSp
import Derived.Test.YtfimakplmkbbjaaCl
import Derived.Test.YtfimakplmkbbjaaIx
import Derived.Outline
import Derived.BigQuiet
namespace Go.Proofs.Ytfimakplmkbbjaa.Sw
open Go.RowKit Go.Maps Go.Proofs.Ytfimakplmkbbjaa.Mp Go.Proofs.Ytfimakplmkbbjaa.Mq Go.Proofs.Ytfimakplmkbbjaa.Sp Go.Proofs.YtfimakplmkbbjaaW.PrintWords Go.Proofs.YtfimakplmkbbjaaW.PrintLast Go.Proofs.YtfimakplmkbbjaaW.PrintMore
set_option linter.unusedVariables false
set_option linter.unusedSimpArgs false
variable {w : World} {B N p b : Nat} {ok : Nat → Prop} {σ : St}

set_option maxRecDepth 100000 in
set_option maxHeartbeats 400000 in
theorem peer_calls (h : PS w B N p b ok σ) (x : Int) :
    Calls Try.prog 18 #[.pointer (some ⟨p, 0, none⟩), .int .i64 x] w fun e w' => e = .returned (.bool (peerB σ x)) ∧ w' = w := by
  have c0 : w.cell? ⟨p, 0, none⟩ = some (.int .i64 σ.self) := blk_cell h.1 0
  have c1 : w.cell? ⟨p, 1, none⟩ = some (.int .i64 σ.parties) := blk_cell h.1 1
  clear h
  have hpb : peerB σ x = (decide (0 ≤ x) && decide (x < σ.parties) && decide (x ≠ σ.self) && (decide (σ.self = 0) || decide (x = 0))) := rfl
  have HPB := Aside0.mk hpb
  clear hpb
  by_cases h0 : 0 ≤ x
  · by_cases h1 : x < σ.parties
    · by_cases h2 : x = σ.self
      · have h2b : (x != σ.self) = false := by rw [bne_eq_false_iff_eq]; exact h2
        have H := Aside0.mk (And.intro h0 (And.intro h1 h2))
        clear h2
        go_enter Try.func18, Try.ntmps18
        go_wp2_with fail
        go_ret
        exact ⟨by rw [HPB.out]; simp [H.out.2.2], rfl⟩
      · have h2b : (x != σ.self) = true := by rw [bne_iff_ne]; exact h2
        by_cases h3 : σ.self = 0
        · have h3b : (σ.self == 0) = true := by rw [beq_iff_eq]; exact h3
          have H := Aside0.mk (And.intro h0 (And.intro h1 (And.intro h2 h3)))
          clear h2 h3
          go_enter Try.func18, Try.ntmps18
          go_wp2_with fail
          go_ret
          exact ⟨by rw [HPB.out]; obtain ⟨a, b, c, d⟩ := H.out; rw [decide_eq_true a, decide_eq_true b, decide_eq_true c, decide_eq_true d]; simp, rfl⟩
        · have h3b : (σ.self == 0) = false := by rw [beq_eq_false_iff_ne]; exact h3
          have H := Aside0.mk (And.intro h0 (And.intro h1 (And.intro h2 h3)))
          clear h2 h3
          go_enter Try.func18, Try.ntmps18
          go_wp2_with fail
          go_ret
          exact ⟨by rw [HPB.out]; obtain ⟨a, b, c, d⟩ := H.out; rw [decide_eq_true a, decide_eq_true b, decide_eq_true c, decide_eq_false d]; simp [Bool.beq_eq_decide_eq], rfl⟩
    · go_enter Try.func18, Try.ntmps18
      go_wp2_with fail
      go_ret
      exact ⟨by rw [HPB.out, decide_eq_false (by omega : ¬ x < σ.parties)]; simp, rfl⟩
  · go_enter Try.func18, Try.ntmps18
    go_wp2_with fail
    go_ret
    exact ⟨by rw [HPB.out, decide_eq_false (by omega : ¬ 0 ≤ x)]; simp, rfl⟩

theorem state_calls (h : PS w B N p b ok σ) :
    Calls Try.prog 11 #[.pointer (some ⟨p, 0, none⟩)] w fun e w' => e = .returned (.tuple #[.int .i64 σ.phase, .int .i64 σ.why]) ∧ Drawn0 w w' := by
  have c0 : w.cell? ⟨p, 4, none⟩ = some (.int .i64 σ.phase) := blk_cell h.1 4
  have c1 : w.cell? ⟨p, 5, none⟩ = some (.int .i64 σ.why) := blk_cell h.1 5
  clear h
  go_enter Try.func11, Try.ntmps11
  go_wp2_with fail
  go_quiet (fail)
  go_wp2_with fail
  go_ret2
  exact ⟨rfl, ⟨⟨_, rfl⟩⟩⟩

set_option maxRecDepth 100000 in
set_option maxRecDepth 100000 in
set_option maxHeartbeats 400000 in
theorem over_calls (h : PS w B N p b ok σ) (hB : B ≤ p) (hBb : B ≤ b) (ph y : Int) :
    Calls Try.prog 30 #[.pointer (some ⟨p, 0, none⟩), .int .i64 ph, .int .i64 y] w fun e w' => e = .returned (.tuple #[]) ∧ PS w' B N p b ok (overS σ ph y) ∧ Fr B p b w w' := by
  have c4 : w.cell? ⟨p, 4, none⟩ = some (.int .i64 σ.phase) := blk_cell h.1 4
  have c5 : w.cell? ⟨p, 5, none⟩ = some (.int .i64 σ.why) := blk_cell h.1 5
  have c6 : w.cell? ⟨p, 6, none⟩ = some (.map (some b)) := blk_cell h.1 6
  have f4 : w.frozen? ⟨p, 4, none⟩ = false := blk_frozen h.1 4
  have f5 : w.frozen? ⟨p, 5, none⟩ = false := blk_frozen h.1 5
  have HM := Aside0.mk h.2
  have HP := Aside0.mk h.1
  have hne := h.ne
  clear h
  have hsz : B ≤ w.heap.size := by have := blk_lt HP.out; omega
  have HSZ := Aside0.mk hsz
  have HNE := Aside0.mk hne
  clear hsz hne
  obtain ⟨n, f, s, hn, hm, hl⟩ := HM.out
  have hm1 : IntMap Try.prog 3 ((w.setCell ⟨p, 4, none⟩ (.int .i64 ph)).setCell ⟨p, 5, none⟩ (.int .i64 y)) b n f s := (hm.far (by exact HNE.out) _).far (by exact HNE.out) _
  have hc1 := blk_put (blk_put HP.out 4 (.int .i64 ph) rfl) 5 (.int .i64 y) rfl
  have HC1 := Aside0.mk hc1
  have HM1 := Aside0.mk hm1
  have HL := Aside0.mk hl
  clear hc1 hm1 hl hm hn
  go_enter Try.func30, Try.ntmps30
  go_wp2_with ((with_reducible refine gate_builtin (b := .clear) (xs := #[.tmp 17]) rfl ?_); refine wp_clear law Try.underlying49 HM1.out rfl (.tmp 17) rfl rfl ?_; intro w1 hm2 hg2)
  go_end0
  refine ⟨rfl, ⟨?_, 0, _, 0, Nat.zero_le _, hm2, fun x _ => rfl⟩, ?_⟩
  · rw [hg2.block p (blk_lt HC1.out) (by intro e; exact HNE.out (Option.some.inj e).symm), HC1.out]
    rfl
  · exact (((Fr.refl B p b w).set hB 4 _).set hB 5 _).grown (by simp [World.setCell]; exact HSZ.out) hg2 (fun k hk => by cases hk; exact ⟨.inr rfl, hBb⟩)

def Did (B N p b : Nat) (ok : Nat → Prop) (w : World) (r : Int × St) (e : Ending) (w' : World) : Prop := e = .returned (.int .i64 r.1) ∧ PS w' B N p b ok r.2 ∧ Fr B p b w w'

set_option maxRecDepth 100000 in
set_option maxHeartbeats 400000 in
theorem abort_calls (h : PS w B N p b ok σ) (hB : B ≤ p) (hBb : B ≤ b) (y : Int) :
    Calls Try.prog 16 #[.pointer (some ⟨p, 0, none⟩), .int .i64 y] w fun e w' => Did B N p b ok w (abortS σ y) e w' := by
  have c4 : w.cell? ⟨p, 4, none⟩ = some (.int .i64 σ.phase) := blk_cell h.1 4
  have H := Aside0.mk h
  clear h
  unfold abortS
  by_cases h0 : σ.phase = 0
  · have hb0 : (σ.phase != 0) = false := by rw [bne_eq_false_iff_eq]; exact h0
    rw [if_neg (by omega)]
    by_cases h1 : y < 1
    · rw [if_pos (.inl h1)]
      clear h0
      go_enter Try.func16, Try.ntmps16
      go_wp2_with fail
      go_ret
      exact ⟨rfl, H.out, Fr.refl _ _ _ _⟩
    · by_cases h2 : y > 1000
      · rw [if_pos (.inr h2)]
        clear h0
        go_enter Try.func16, Try.ntmps16
        go_wp2_with fail
        go_ret
        exact ⟨rfl, H.out, Fr.refl _ _ _ _⟩
      · rw [if_neg (by omega)]
        clear h0
        go_enter Try.func16, Try.ntmps16
        go_wp2_with fail
        refine (over_calls H.out hB hBb 2 y).mono ?_
        rintro e w1 ⟨rfl, hp, hf⟩
        have HP := Aside0.mk hp
        have HF := Aside0.mk hf
        clear hp hf
        go_wp2_with fail
        go_ret
        exact ⟨rfl, HP.out, HF.out⟩
  · have hb0 : (σ.phase != 0) = true := by rw [bne_iff_ne]; exact h0
    rw [if_pos h0]
    clear h0
    go_enter Try.func16, Try.ntmps16
    go_wp2_with fail
    go_ret
    exact ⟨rfl, H.out, Fr.refl _ _ _ _⟩

theorem zero_is {n s : Nat} {f : Int → Option Value} (hI : Inv σ) (hm : IntMap Try.prog 3 w b n f s) (hl : Lies w B ok f σ.wt) : s = 0 ↔ ids16.any (isB σ) = false := by
  rw [zero_iff law Try.underlying3 hm, List.any_eq_false]
  constructor
  · intro h x hx
    have hx' := mem_ids.1 hx
    have hw : I64 x := I64.mk (by omega) (by omega)
    have h1 := hl x hw
    unfold isB
    cases hy : σ.wt x with
    | none => simp
    | some y => rw [hy] at h1; obtain ⟨v, hv, _⟩ := h1; rw [h x hw] at hv; cases hv
  · intro h x hx
    have h1 := hl x hx
    cases hy : σ.wt x with
    | none => rw [hy] at h1; exact h1
    | some y =>
      have hb : isB σ x = true := by unfold isB; rw [hy]; rfl
      exact absurd hb (h x (hI.ids hb))

set_option maxRecDepth 100000 in
set_option maxHeartbeats 400000 in
theorem finish_calls (h : PS w B N p b ok σ) (hI : Inv σ) (hB : B ≤ p) (hBb : B ≤ b) :
    Calls Try.prog 26 #[.pointer (some ⟨p, 0, none⟩)] w fun e w' => Did B N p b ok w (finishS σ) e w' := by
  have c4 : w.cell? ⟨p, 4, none⟩ = some (.int .i64 σ.phase) := blk_cell h.1 4
  have c6 : w.cell? ⟨p, 6, none⟩ = some (.map (some b)) := blk_cell h.1 6
  have H := Aside0.mk h
  have HI := Aside0.mk hI
  clear h hI
  unfold finishS
  by_cases h0 : σ.phase = 0
  · have hb0 : (σ.phase != 0) = false := by rw [bne_eq_false_iff_eq]; exact h0
    rw [if_neg (by omega)]
    clear h0
    obtain ⟨n, f, s, hn, hm, hl⟩ := H.out.2
    have hz := zero_is HI.out hm hl
    have hlen := run_len Try.underlying49 hm 3
    clear hn hm hl
    cases h1 : ids16.any (isB σ) with
    | true =>
      rw [if_pos rfl]
      have hs : ¬ s = 0 := fun e => by rw [hz.1 e] at h1; cases h1
      have hsb : (0 : Int) < (s : Int) := by omega
      clear hz h1 hs
      go_enter Try.func26, Try.ntmps26
      go_wp2_with fail
      go_ret
      exact ⟨rfl, H.out, Fr.refl _ _ _ _⟩
    | false =>
      rw [if_neg (by simp)]
      have hs : s = 0 := hz.2 h1
      subst hs
      clear hz h1
      go_enter Try.func26, Try.ntmps26
      go_wp2_with fail
      refine (over_calls H.out hB hBb 1 0).mono ?_
      rintro e w1 ⟨rfl, hp, hf⟩
      have HP := Aside0.mk hp
      have HF := Aside0.mk hf
      clear hp hf
      go_wp2_with fail
      go_ret
      exact ⟨rfl, HP.out, HF.out⟩
  · have hb0 : (σ.phase != 0) = true := by rw [bne_iff_ne]; exact h0
    rw [if_pos h0]
    clear h0
    go_enter Try.func26, Try.ntmps26
    go_wp2_with fail
    go_ret
    exact ⟨rfl, H.out, Fr.refl _ _ _ _⟩
end Go.Proofs.Ytfimakplmkbbjaa.Sw
