/- Sessions: the two side by side; one act. -/
import Derived.Test.YtfimakplmkbbjaaSn
namespace Go.Proofs.Ytfimakplmkbbjaa.Sd
open Go.RowKit Go.Maps Go.Proofs.Ytfimakplmkbbjaa.Mp Go.Proofs.Ytfimakplmkbbjaa.Mq Go.Proofs.Ytfimakplmkbbjaa.Sp Go.Proofs.Ytfimakplmkbbjaa.Sx Go.Proofs.Ytfimakplmkbbjaa.Sr Go.Proofs.Ytfimakplmkbbjaa.Sn Go.Proofs.YtfimakplmkbbjaaW.PrintWords Go.Proofs.YtfimakplmkbbjaaW.PrintLast Go.Proofs.YtfimakplmkbbjaaW.PrintMore
set_option linter.unusedVariables false
set_option linter.unusedSimpArgs false

/-- An act. -/
structure Ac where
  f0 : Int
  f1 : Int
  f2 : Int
  f3 : Int
  f4 : List Int
def actS (σ : St) (x : Ac) : Int × St :=
  if x.f0 = 0 then awaitS σ x.f1 x.f4 else if x.f0 = 1 then takeS σ x.f1 x.f2 x.f3 else if x.f0 = 2 then tickS σ x.f2 else if x.f0 = 3 then finishS σ else if x.f0 = 4 then abortS σ x.f2 else (0, σ)
def okO (p b r : Nat) : Nat → Prop := fun k => k ≠ p ∧ k ≠ b ∧ k ≠ r
structure Two (w : World) (B N p b r : Nat) (σ τ : St) : Prop where
  ps : PS w B N p b (okO p b r) σ
  rs : RS w B r (okO p b r) τ
  iv : Inv σ
  iw : Inv τ
  bp : B ≤ p
  bb : B ≤ b
  br : B ≤ r
  pr : p ≠ r
  bn : b ≠ r
theorem Two.below {w w' : World} {B N p b r : Nat} {σ τ : St} (h : Two w B N p b r σ τ) (hb : Below w.heap.size w w') : Two w' B N p b r σ τ :=
  ⟨h.ps.below hb, h.rs.below hb, h.iv, h.iw, h.bp, h.bb, h.br, h.pr, h.bn⟩
theorem Two.mono {w : World} {B N M p b r : Nat} {σ τ : St} (h : Two w B N p b r σ τ) (hm : N ≤ M) : Two w B M p b r σ τ := ⟨h.ps.mono hm, h.rs, h.iv, h.iw, h.bp, h.bb, h.br, h.pr, h.bn⟩
theorem Two.size {w : World} {B N p b r : Nat} {σ τ : St} (h : Two w B N p b r σ τ) : B ≤ w.heap.size := by have := blk_lt h.ps.1; have := h.bp; omega
theorem Two.old {w : World} {B N p b r : Nat} {σ τ : St} (h : Two w B N p b r σ τ) : ∀ k, w.heap.size ≤ k → okO p b r k := fun k hk => by
  have h1 := blk_lt h.ps.1
  have h2 := h.rs.lt
  obtain ⟨n, f, s, _, hm, _⟩ := h.ps.2
  have h3 := hm.lt
  exact ⟨by omega, by omega, by omega⟩
/-- What a step of both keeps. -/
def FrT (B p b r : Nat) (w w' : World) : Prop := Below B w w' ∧ Kept w w' (fun k => k = p ∨ k = b ∨ k = r)
theorem FrT.refl (B p b r : Nat) (w : World) : FrT B p b r w w := ⟨Below.refl _ _, Kept.refl _ _⟩
theorem FrT.p {B p b r : Nat} {w w1 w2 : World} (h : FrT B p b r w w1) (k : Fr B p b w1 w2) : FrT B p b r w w2 := ⟨h.1.trans k.1, h.2.then_ k.2 (fun k hk => .inl (by rcases hk with rfl | rfl; exact .inl rfl; exact .inr (.inl rfl)))⟩
theorem FrT.r {B p b r : Nat} {w w1 w2 : World} (h : FrT B p b r w w1) (k : Fr B r r w1 w2) : FrT B p b r w w2 := ⟨h.1.trans k.1, h.2.then_ k.2 (fun k hk => .inl (by rcases hk with rfl | rfl <;> exact .inr (.inr rfl)))⟩
theorem FrT.below {B p b r : Nat} {w w1 w2 : World} (h : FrT B p b r w w1) (hB : B ≤ w1.heap.size) (k : Below w1.heap.size w1 w2) : FrT B p b r w w2 := ⟨below_then h.1 hB k, h.2.below k⟩
theorem FrT.trans {B p b r : Nat} {w w1 w2 : World} (h : FrT B p b r w w1) (k : FrT B p b r w1 w2) : FrT B p b r w w2 := ⟨h.1.trans k.1, h.2.then_ k.2 (fun _ h => .inl h)⟩
theorem RS.fr {w w' : World} {B N p b r : Nat} {σ τ : St} (h : Two w B N p b r σ τ) (k : Fr B p b w w') : RS w' B r (okO p b r) τ :=
  h.rs.kept k.2 (fun e => by rcases e with e | e; exact h.pr e.symm; exact h.bn e.symm) (fun k hk e => by rcases e with rfl | rfl; exact hk.1 rfl; exact hk.2.1 rfl)
theorem PS.fr {w w' : World} {B N p b r : Nat} {σ : St} (h : PS w B N p b (okO p b r) σ) (hp : p ≠ r) (hb : b ≠ r) (k : Fr B r r w w') : PS w' B N p b (okO p b r) σ :=
  h.kept k.2 (fun e => by rcases e with e | e <;> exact hp e) (fun e => by rcases e with e | e <;> exact hb e) (fun k hk e => by rcases e with rfl | rfl <;> exact hk.2.2 rfl)
theorem keep_blk {B p b r : Nat} {w w' : World} {g : Nat} {o : Obj} (h : FrT B p b r w w') (hb : w.heap[g]? = some o) (hg : okO p b r g) : w'.heap[g]? = some o := (h.2.2 g (blk_lt hb) (fun e => by rcases e with e | e | e; exact hg.1 e; exact hg.2.1 e; exact hg.2.2 e)).trans hb
def actC (x : Ac) (A : Option Addr) (c : Nat) : Array Value := #[.int .i64 x.f0, .int .i64 x.f1, .int .i64 x.f2, .int .i64 x.f3, .slice A x.f4.length c]
theorem act_inv {σ : St} (h : Inv σ) (x : Ac) (hl : x.f4.length ≤ 17592186044416) : Inv (actS σ x).2 := by
  unfold actS
  split
  · exact h.await _ _ hl
  split
  · exact h.take _ _ _
  split
  · exact h.tickS _
  split
  · exact h.finish
  split
  · exact h.abort _
  · exact h
theorem act_cells {W : World} {g : Nat} {x : Ac} {A : Option Addr} {c : Nat} (h : W.heap[g]? = some (.cells (actC x A c) 34 (0, 0))) :
    W.cell? ⟨g, 0, none⟩ = some (.int .i64 x.f0) ∧ W.cell? ⟨g, 1, none⟩ = some (.int .i64 x.f1) ∧ W.cell? ⟨g, 2, none⟩ = some (.int .i64 x.f2) ∧ W.cell? ⟨g, 3, none⟩ = some (.int .i64 x.f3) ∧ W.cell? ⟨g, 4, none⟩ = some (.slice A x.f4.length c) :=
  ⟨blk_cell h 0, blk_cell h 1, blk_cell h 2, blk_cell h 3, blk_cell h 4⟩
theorem msg_cells {W : World} {g : Nat} {k a : Int} (h : W.heap[g]? = some (.cells (msgC k a) 62 (0, 0))) :
    W.cell? ⟨g, 0, none⟩ = some (.int .i64 k) ∧ W.cell? ⟨g, 1, none⟩ = some (.int .i64 a) ∧ W.cell? ⟨g, 2, none⟩ = some (.int .i64 0) ∧ W.cell? ⟨g, 3, none⟩ = some (.int .i64 0) ∧ W.cell? ⟨g, 4, none⟩ = some (.slice none 0 0) ∧ W.cell? ⟨g, 5, none⟩ = some (.slice none 0 0) ∧ W.cell? ⟨g, 6, none⟩ = some (.slice none 0 0) :=
  ⟨blk_cell h 0, blk_cell h 1, blk_cell h 2, blk_cell h 3, blk_cell h 4, blk_cell h 5, blk_cell h 6⟩

set_option maxRecDepth 100000 in
set_option maxHeartbeats 2000000 in
theorem do_calls {w0 w : World} {B N p b r : Nat} {σ τ : St} (hB0 : B = w0.heap.size) (hb0 : Below w0.heap.size w0 w) (h : Two w B N p b r σ τ) (hN : N ≤ 1000000) (x : Ac) (hx : I64 x.f1) (A : Option Addr) (c : Nat) (hr : Kd.C (Kd.int .i64) w0 A x.f4.length x.f4) (hl : x.f4.length ≤ 17592186044416) :
    Calls Try.prog 10 #[.pointer (some ⟨p, 0, none⟩), .pointer (some ⟨r, 0, none⟩), .agg (actC x A c)] w fun e w' => (∃ v : Bool, e = .returned (.bool v) ∧ ((actS σ x).1 = (actS τ x).1 → v = true)) ∧ Two w' B (N + 1) p b r (actS σ x).2 (actS τ x).2 ∧ FrT B p b r w w' := by
  have H := Aside0.mk h
  obtain ⟨R, hR⟩ : ∃ R, R = actS σ x := ⟨_, rfl⟩
  obtain ⟨T, hT⟩ : ∃ T, T = actS τ x := ⟨_, rfl⟩
  rw [← hR, ← hT]
  have hIR := act_inv h.iv x hl
  have hIT := act_inv h.iw x hl
  rw [← hR] at hIR
  rw [← hT] at hIT
  have HIR := Aside0.mk hIR
  have HIT := Aside0.mk hIT
  unfold actS at hR hT
  obtain ⟨w1, hw1⟩ : ∃ w1, w1 = w.alloc (.cells (actC x A c) 34) := ⟨_, rfl⟩
  obtain ⟨w2, hw2⟩ : ∃ w2, w2 = w1.alloc (.cells (msgC x.f2 x.f3) 62) := ⟨_, rfl⟩
  have hb1 : Below w.heap.size w w1 := by rw [hw1]; exact below_alloc (Below.refl _ _) _
  have hb2 : Below w1.heap.size w1 w2 := by rw [hw2]; exact below_alloc (Below.refl _ _) _
  have hs1 : w1.heap.size = w.heap.size + 1 := by rw [hw1]; exact size_al _ _
  have hb12 : Below w.heap.size w w2 := hb1.trans (hb2.mono hb1.size)
  have k1 : w2.heap[w.heap.size]? = some (.cells (actC x A c) 34 (0, 0)) := by rw [hb2.block _ (by omega), hw1]; exact blk_new w _
  have k2 : w2.heap[w.heap.size + 1]? = some (.cells (msgC x.f2 x.f3) 62 (0, 0)) := by rw [hw2, ← hs1]; exact blk_new w1 _
  have a1 : w1.heap[w.heap.size]? = some (.cells (actC x A c) 34 (0, 0)) := by rw [hw1]; exact blk_new w _
  have T2 := Aside0.mk (h.below hb12)
  have F2 := Aside0.mk ((FrT.refl B p b r w).below h.size hb12)
  have HA := Aside0.mk k1
  have HM := Aside0.mk k2
  have HRD := Aside0.mk (Kd.C_below hr (hb0.trans (hb12.mono hb0.size)))
  have HX := Aside0.mk hx
  have HRDB := Aside0.mk (show ∀ W, FrT B p b r w2 W → Kd.C (Kd.int .i64) W A x.f4.length x.f4 from fun W hW => Kd.C_below hr ((hb0.trans (hb12.mono hb0.size)).trans (hB0 ▸ hW.1)))
  have hoa := h.old w.heap.size (Nat.le_refl _)
  have hom := h.old (w.heap.size + 1) (Nat.le_succ _)
  have HOA := Aside0.mk hoa
  have HOM := Aside0.mk hom
  have hokp : ¬ okO p b r p := fun e => e.1 rfl
  have hokb : ¬ okO p b r b := fun e => e.2.1 rfl
  have hokr : ¬ okO p b r r := fun e => e.2.2 rfl
  have HOK := Aside0.mk (And.intro hokp (And.intro hokb hokr))
  obtain ⟨d0, d1, d2, d3, d4⟩ := act_cells a1
  have AC := fun (W : World) (hW : FrT B p b r w2 W) => act_cells (keep_blk hW HA.out HOA.out)
  have MC := fun (W : World) (hW : FrT B p b r w2 W) => msg_cells (keep_blk hW HM.out HOM.out)
  have HAC := Aside0.mk AC
  have HMC := Aside0.mk MC
  obtain ⟨e0, e1, e2, e3, e4⟩ := HAC.out w2 (FrT.refl _ _ _ _ _)
  rw [hw1] at d0 d1 d2 d3 d4
  unfold actC at d0 d1 d2 d3 d4 hw1 ⊢
  unfold msgC at hw2
  rw [hw1] at hw2
  have HW2 := Aside0.mk hw2
  have HS1 := Aside0.mk hs1
  rw [hw2] at e0 e1 e2 e3 e4
  clear hb0 hB0 h hr hx hw1 hw2 hb1 hb2 hs1 hb12 k1 k2 a1 hoa hom hokp hokb hokr AC MC hIR hIT
  by_cases h0 : x.f0 = 0
  · have hc0 : (x.f0 == 0) = true := by rw [beq_iff_eq]; exact h0
    rw [if_pos h0] at hR hT
    have HR := Aside0.mk hR
    have HTT := Aside0.mk hT
    clear hR hT h0
    go_enter Try.func10, Try.ntmps10
    go_wp2_with fail
    rw [← HW2.out]
    refine (Sa.await_calls T2.out.ps T2.out.iv T2.out.bp T2.out.bb HOK.out.2.1 T2.out.old hN x.f1 HX.out A c x.f4 HRD.out hl).mono ?_
    rw [← HR.out]
    rintro e w3 ⟨rfl, hp, hf⟩
    have HP := Aside0.mk hp
    have HRS := Aside0.mk (RS.fr T2.out hf)
    have HF := Aside0.mk ((FrT.refl B p b r w2).p hf)
    have HSZ := Aside0.mk (show ∀ k, w3.heap.size ≤ k → okO p b r k from fun k hk => T2.out.old k (Nat.le_trans hf.1.size hk))
    clear hp hf d0 d1 d2 d3 d4 e0 e1 e2 e3 e4
    obtain ⟨g0, g1, g2, g3, g4⟩ := HAC.out w3 HF.out
    obtain ⟨n0, n1, n2, n3, n4, n5, n6⟩ := HMC.out w3 HF.out
    go_wp2_with fail
    refine (Sy.await_calls HRS.out T2.out.iw T2.out.br HOK.out.2.2 HSZ.out x.f1 A c x.f4 (HRDB.out w3 HF.out) hl).mono ?_
    rw [← HTT.out]
    rintro e w4 ⟨rfl, hp, hf⟩
    have HP4 := Aside0.mk (PS.fr HP.out T2.out.pr T2.out.bn hf)
    have HRS4 := Aside0.mk hp
    have HF4 := Aside0.mk (HF.out.r hf)
    clear hp hf
    go_wp2_with fail
    go_ret
    exact ⟨⟨_, rfl, fun e => by rw [beq_iff_eq]; exact e⟩, ⟨HP4.out, HRS4.out, HIR.out, HIT.out, T2.out.bp, T2.out.bb, T2.out.br, T2.out.pr, T2.out.bn⟩, F2.out.trans HF4.out⟩
  have hc0 : (x.f0 == 0) = false := by rw [beq_eq_false_iff_ne]; exact h0
  rw [if_neg h0] at hR hT
  by_cases h1 : x.f0 = 1
  · have hc1 : (x.f0 == 1) = true := by rw [beq_iff_eq]; exact h1
    rw [if_pos h1] at hR hT
    have HR := Aside0.mk hR
    have HTT := Aside0.mk hT
    clear hR hT h1
    go_enter Try.func10, Try.ntmps10
    go_wp2_with fail
    rw [← HW2.out]
    refine (Sx.take_calls T2.out.ps T2.out.iv T2.out.bp T2.out.bb HOK.out.2.1 x.f1 x.f2 x.f3).mono ?_
    rw [← HR.out]
    rintro e w3 ⟨rfl, hp, hf⟩
    have HP := Aside0.mk (hp.mono (Nat.le_succ _))
    have HRS := Aside0.mk (RS.fr T2.out hf)
    have HF := Aside0.mk ((FrT.refl B p b r w2).p hf)
    have HSZ := Aside0.mk (show ∀ k, w3.heap.size ≤ k → okO p b r k from fun k hk => T2.out.old k (Nat.le_trans hf.1.size hk))
    clear hp hf d0 d1 d2 d3 d4 e0 e1 e2 e3 e4
    obtain ⟨g0, g1, g2, g3, g4⟩ := HAC.out w3 HF.out
    obtain ⟨n0, n1, n2, n3, n4, n5, n6⟩ := HMC.out w3 HF.out
    go_wp2_with fail
    refine (Sz.take_calls HRS.out T2.out.iw T2.out.br HOK.out.2.2 x.f1 x.f2 x.f3).mono ?_
    rw [← HTT.out]
    rintro e w4 ⟨rfl, hp, hf⟩
    have HP4 := Aside0.mk (PS.fr HP.out T2.out.pr T2.out.bn hf)
    have HRS4 := Aside0.mk hp
    have HF4 := Aside0.mk (HF.out.r hf)
    clear hp hf
    go_wp2_with fail
    go_ret
    exact ⟨⟨_, rfl, fun e => by rw [beq_iff_eq]; exact e⟩, ⟨HP4.out, HRS4.out, HIR.out, HIT.out, T2.out.bp, T2.out.bb, T2.out.br, T2.out.pr, T2.out.bn⟩, F2.out.trans HF4.out⟩
  have hc1 : (x.f0 == 1) = false := by rw [beq_eq_false_iff_ne]; exact h1
  rw [if_neg h1] at hR hT
  by_cases h2 : x.f0 = 2
  · have hc2 : (x.f0 == 2) = true := by rw [beq_iff_eq]; exact h2
    rw [if_pos h2] at hR hT
    have HR := Aside0.mk hR
    have HTT := Aside0.mk hT
    clear hR hT h2
    go_enter Try.func10, Try.ntmps10
    go_wp2_with fail
    rw [← HW2.out]
    refine (St.tick_calls T2.out.ps T2.out.iv T2.out.bp T2.out.bb HOK.out.1 x.f2).mono ?_
    rw [← HR.out]
    rintro e w3 ⟨rfl, hp, hf⟩
    have HP := Aside0.mk (hp.mono (Nat.le_succ _))
    have HRS := Aside0.mk (RS.fr T2.out hf)
    have HF := Aside0.mk ((FrT.refl B p b r w2).p hf)
    have HSZ := Aside0.mk (show ∀ k, w3.heap.size ≤ k → okO p b r k from fun k hk => T2.out.old k (Nat.le_trans hf.1.size hk))
    clear hp hf d0 d1 d2 d3 d4 e0 e1 e2 e3 e4
    obtain ⟨g0, g1, g2, g3, g4⟩ := HAC.out w3 HF.out
    obtain ⟨n0, n1, n2, n3, n4, n5, n6⟩ := HMC.out w3 HF.out
    go_wp2_with fail
    refine (Sq.tick_calls HRS.out T2.out.iw T2.out.br HOK.out.2.2 x.f2).mono ?_
    rw [← HTT.out]
    rintro e w4 ⟨rfl, hp, hf⟩
    have HP4 := Aside0.mk (PS.fr HP.out T2.out.pr T2.out.bn hf)
    have HRS4 := Aside0.mk hp
    have HF4 := Aside0.mk (HF.out.r hf)
    clear hp hf
    go_wp2_with fail
    go_ret
    exact ⟨⟨_, rfl, fun e => by rw [beq_iff_eq]; exact e⟩, ⟨HP4.out, HRS4.out, HIR.out, HIT.out, T2.out.bp, T2.out.bb, T2.out.br, T2.out.pr, T2.out.bn⟩, F2.out.trans HF4.out⟩
  have hc2 : (x.f0 == 2) = false := by rw [beq_eq_false_iff_ne]; exact h2
  rw [if_neg h2] at hR hT
  by_cases h3 : x.f0 = 3
  · have hc3 : (x.f0 == 3) = true := by rw [beq_iff_eq]; exact h3
    rw [if_pos h3] at hR hT
    have HR := Aside0.mk hR
    have HTT := Aside0.mk hT
    clear hR hT h3
    go_enter Try.func10, Try.ntmps10
    go_wp2_with fail
    rw [← HW2.out]
    refine (Sw.finish_calls T2.out.ps T2.out.iv T2.out.bp T2.out.bb).mono ?_
    rw [← HR.out]
    rintro e w3 ⟨rfl, hp, hf⟩
    have HP := Aside0.mk (hp.mono (Nat.le_succ _))
    have HRS := Aside0.mk (RS.fr T2.out hf)
    have HF := Aside0.mk ((FrT.refl B p b r w2).p hf)
    have HSZ := Aside0.mk (show ∀ k, w3.heap.size ≤ k → okO p b r k from fun k hk => T2.out.old k (Nat.le_trans hf.1.size hk))
    clear hp hf d0 d1 d2 d3 d4 e0 e1 e2 e3 e4
    obtain ⟨g0, g1, g2, g3, g4⟩ := HAC.out w3 HF.out
    obtain ⟨n0, n1, n2, n3, n4, n5, n6⟩ := HMC.out w3 HF.out
    go_wp2_with fail
    refine (Sq.finish_calls HRS.out T2.out.iw T2.out.br HOK.out.2.2).mono ?_
    rw [← HTT.out]
    rintro e w4 ⟨rfl, hp, hf⟩
    have HP4 := Aside0.mk (PS.fr HP.out T2.out.pr T2.out.bn hf)
    have HRS4 := Aside0.mk hp
    have HF4 := Aside0.mk (HF.out.r hf)
    clear hp hf
    go_wp2_with fail
    go_ret
    exact ⟨⟨_, rfl, fun e => by rw [beq_iff_eq]; exact e⟩, ⟨HP4.out, HRS4.out, HIR.out, HIT.out, T2.out.bp, T2.out.bb, T2.out.br, T2.out.pr, T2.out.bn⟩, F2.out.trans HF4.out⟩
  have hc3 : (x.f0 == 3) = false := by rw [beq_eq_false_iff_ne]; exact h3
  rw [if_neg h3] at hR hT
  by_cases h4 : x.f0 = 4
  · have hc4 : (x.f0 == 4) = true := by rw [beq_iff_eq]; exact h4
    rw [if_pos h4] at hR hT
    have HR := Aside0.mk hR
    have HTT := Aside0.mk hT
    clear hR hT h4
    go_enter Try.func10, Try.ntmps10
    go_wp2_with fail
    rw [← HW2.out]
    refine (Sw.abort_calls T2.out.ps T2.out.bp T2.out.bb x.f2).mono ?_
    rw [← HR.out]
    rintro e w3 ⟨rfl, hp, hf⟩
    have HP := Aside0.mk (hp.mono (Nat.le_succ _))
    have HRS := Aside0.mk (RS.fr T2.out hf)
    have HF := Aside0.mk ((FrT.refl B p b r w2).p hf)
    have HSZ := Aside0.mk (show ∀ k, w3.heap.size ≤ k → okO p b r k from fun k hk => T2.out.old k (Nat.le_trans hf.1.size hk))
    clear hp hf d0 d1 d2 d3 d4 e0 e1 e2 e3 e4
    obtain ⟨g0, g1, g2, g3, g4⟩ := HAC.out w3 HF.out
    obtain ⟨n0, n1, n2, n3, n4, n5, n6⟩ := HMC.out w3 HF.out
    go_wp2_with fail
    refine (Sr.abort_calls HRS.out T2.out.br HOK.out.2.2 x.f2).mono ?_
    rw [← HTT.out]
    rintro e w4 ⟨rfl, hp, hf⟩
    have HP4 := Aside0.mk (PS.fr HP.out T2.out.pr T2.out.bn hf)
    have HRS4 := Aside0.mk hp
    have HF4 := Aside0.mk (HF.out.r hf)
    clear hp hf
    go_wp2_with fail
    go_ret
    exact ⟨⟨_, rfl, fun e => by rw [beq_iff_eq]; exact e⟩, ⟨HP4.out, HRS4.out, HIR.out, HIT.out, T2.out.bp, T2.out.bb, T2.out.br, T2.out.pr, T2.out.bn⟩, F2.out.trans HF4.out⟩
  have hc4 : (x.f0 == 4) = false := by rw [beq_eq_false_iff_ne]; exact h4
  rw [if_neg h4] at hR hT
  have HR := Aside0.mk hR
  have HTT := Aside0.mk hT
  clear hR hT h0 h1 h2 h3 h4
  go_enter Try.func10, Try.ntmps10
  go_wp2_with fail
  rw [← HW2.out]
  go_ret
  rw [HR.out, HTT.out]
  exact ⟨⟨_, rfl, fun _ => rfl⟩, T2.out.mono (Nat.le_succ _), F2.out⟩
end Go.Proofs.Ytfimakplmkbbjaa.Sd
