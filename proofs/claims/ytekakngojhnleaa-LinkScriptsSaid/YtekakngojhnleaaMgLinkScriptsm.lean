/- Parts of the proof of LinkScripts, merged: each is proved for all its inputs. -/
import Derived.Test.YtekakngojhnleaaMgLinkScriptsl
import Derived.Test.YtekakngojhnleaaMgLinkScriptsi
import Derived.Laws.EntriesVeiled
import Derived.Test.YtekakngojhnleaaMgLinkScriptsj
import Derived.Test.YtekakngojhnleaaMgLinkScriptsk
/- Links: Out of the program walked. -/
namespace Go.Proofs.Ytekakngojhnleaa.Ow
open Go.RowKit Go.Maps Go.Shelf Go.Proofs.Ytekakngojhnleaa.Mp Go.Proofs.Ytekakngojhnleaa.Mq Go.Proofs.Ytekakngojhnleaa.Lp Go.Proofs.Ytekakngojhnleaa.Lm Go.Proofs.Ytekakngojhnleaa.La Go.Proofs.Ytekakngojhnleaa.Lb Go.Proofs.Ytekakngojhnleaa.Lc Go.Proofs.Ytekakngojhnleaa.Ld Go.Proofs.Ytekakngojhnleaa.Le Go.Proofs.Ytekakngojhnleaa.Rg Go.Proofs.Ytekakngojhnleaa.Ou Go.Proofs.Ytekakngojhnleaa.Ov Go.Proofs.Ytekakngojhnleaa.En Go.Proofs.Ytekakngojhnleaa.Dw Go.Proofs.YtekakngojhnleaaW.PrintWords Go.Proofs.YtekakngojhnleaaW.PrintLast Go.Proofs.YtekakngojhnleaaW.PrintMore
set_option linter.unusedVariables false
set_option linter.unusedSimpArgs false
attribute [local go_sem] Oper.semAt_some
variable {w : World} {B N p : Nat} {S : Nat → Prop} {σ : Lk}

/-- The normal end alone. -/
def onlyN (Q : Exit → Act → World → Prop) : Exit → Act → World → Prop
  | .normal, a, w => Q .normal a w
  | .ret, _, _ => False
  | .exit _, _, _ => False
  | .goto _, _, _ => False
  | .panic _, _, _ => False
  | .outgrown, _, _ => False
theorem onlyN_up {Q : Exit → Act → World → Prop} : ∀ e a w, onlyN Q e a w → Q e a w := fun e a w h => by
  cases e with
  | normal => exact h
  | _ => exact h.elim
theorem noDefer_of {ops : Array Oper} (h : (ops.toList.all fun o => match o.op with | .defer _ => false | _ => true) = true) : ∀ o ∈ ops.toList, ∀ c, o.op ≠ .defer c := fun o ho c e => by
  have := List.all_eq_true.1 h o ho
  rw [e] at this
  cases this
section
variable {b n s : Nat} {vq vi : Value} {hq hi : List Hd} {f : Int → Option Value} {st : List Nat × Nat} {W : World}
/-- An end stays where its own blocks stay. -/
theorem LPx.step {W' : World} (h : LPx W B N S p σ b vq vi hq hi n s f) (hm : ∀ k, S k → W'.heap[k]? = W.heap[k]?) (hz : W.heap.size ≤ W'.heap.size) (k5 : Keep5 W W') : LPx W' B N S p σ b vq vi hq hi n s f := by
  refine ⟨(hm p h.sp).trans h.blk, Kd.Q_step h.q (fun k hk _ => hm k (h.sq k hk.symm)), h.qb.keep k5, Kd.Q_step h.i (fun k hk _ => hm k (h.si k hk.symm)), h.ib.keep k5, ?_, h.mn, h.mf.keep k5, h.sp, h.sb, h.sq, h.si, h.ap, fun k hk => Nat.lt_of_lt_of_le (h.lt k hk) hz, h.ge⟩
  obtain ⟨D, ⟨es, clock, h1, h2⟩, hs, hf⟩ := h.m
  exact ⟨D, ⟨es, clock, (hm b h.sb).trans h1, h2⟩, hs, hf⟩
theorem io_put (h0 : LPx w B N S p σ b vq vi hq hi n s f) (h : IO w B N S p σ b vq vi hq hi n s f st W) {W5 : World} {k : Nat} (hov : OV W5 w.heap.size (w.heap.size + 1) (st.1.map (fData σ) ++ [frameL true k σ.all.length (σ.took.getD k [])])) (hb : Below w.heap.size W W5) (h5 : Keep5 W W5) (hp : PutK (w.heap.size + 1) W W5) :
    IO w B N S p σ b vq vi hq hi n s f (nxO st (k : Int)) W5 := by
  have hB : B ≤ w.heap.size := by have := h0.ge p h0.sp; have := blk_lt h0.blk; omega
  refine ⟨LPx.step h.lp (fun k hk => hb.block k (h0.lt k hk)) hb.size h5, ⟨h.fr.b.trans (hb.mono hB), ⟨Nat.le_trans h.fr.b.size hb.size, fun i hi hn => (hb.block i hi).trans (h.fr.k.2 i hi hn)⟩, h.fr.k5.trans h5, fun k hk => .inl hk⟩, ?_, hp.block h.bx (by omega) (by simp), hp.block h.pb (by omega) (by simp), hp.block h.bd (by omega) (by simp)⟩
  · unfold nxO
    rw [List.map_append, List.map_cons, List.map_nil, Int.toNat_natCast]
    exact hov
theorem io_own (h0 : LPx w B N S p σ b vq vi hq hi n s f) {B0 : Nat} (hB0 : w.heap.size ≤ B0) : OwnFrom B0 (IO w B N S p σ b vq vi hq hi n s f) := by
  intro st W W' row h hg hr
  have hne : ∀ k cs t, W.heap[k]? = some (.cells cs t (0, 0)) → some k ≠ row := fun k cs t hk e => by
    obtain ⟨_, o, ho, hc⟩ := hr k e.symm
    rw [hk] at ho; cases ho; cases hc
  have hcell : ∀ {k : Nat} {cs : Array Value} {t : Nat}, W.heap[k]? = some (.cells cs t (0, 0)) → W'.heap[k]? = some (.cells cs t (0, 0)) := fun {k cs t} hk => (hg.block k (blk_lt hk) (hne k cs t hk)).trans hk
  have hlow : ∀ k, k < w.heap.size → W'.heap[k]? = W.heap[k]? := fun k hk => hg.block k (Nat.lt_of_lt_of_le hk h.fr.b.size) (fun e => by have := (hr k e.symm).1; omega)
  have k5 : Keep5 W W' := Keep5.grown hg (fun k hk cs hc => hne k cs 5 hc hk.symm)
  have hB : B ≤ w.heap.size := by have := h0.ge p h0.sp; have := blk_lt h0.blk; omega
  refine ⟨LPx.step h.lp (fun k hk => hlow k (h0.lt k hk)) hg.size k5, ⟨pw_below_grown h.fr.b row (Nat.le_trans hB h.fr.b.size) hg (fun k hk => by have := (hr k hk).1; omega), ⟨Nat.le_trans h.fr.b.size hg.size, fun i hi hn => (hlow i hi).trans (h.fr.k.2 i hi hn)⟩, h.fr.k5.trans k5, fun k hk => .inl hk⟩, ?_, hcell h.bx, hcell h.pb, hcell h.bd⟩
  obtain ⟨v, hs, ho⟩ := h.ov
  exact ⟨v, hs, hcell ho.box, Kd.Q_step ho.q (fun k hk _ => by
    obtain ⟨cs, hc⟩ := Kd.Q_typed ho.q k hk.symm
    rw [hcell hc, hc]), ho.b.keep k5⟩
theorem mem_getD {k : Nat} {l : List (List Int)} (h : k < l.length) : l.getD k [] ∈ l := by
  rw [List.getD_eq_getElem?_getD, List.getElem?_eq_getElem h, Option.getD_some]; exact List.getElem_mem _
/-- A message that is not sure, in the queue. -/
theorem q_at {A0 : Option Addr} {c0 : Nat} {sv : Nat} (h : LPx W B N S p { σ with sent := sv } b (.slice A0 hq.length c0) vi hq hi n s f) {k : Nat} (h1 : σ.sure ≤ k) (h2 : k < σ.took.length) :
    ∃ ad, A0 = some ad ∧ ∃ hd : Hd, W.drew.cell? (ad.add (k - σ.sure)) = some (.slice hd.a hd.n hd.c) ∧ Aside0 (hd.n = (σ.took.getD k []).length) ∧ Aside0 ((σ.took.getD k []).length ≤ hd.c) ∧ Aside0 ((Kd.int .u8).C W.drew hd.a (σ.took.getD k []).length (σ.took.getD k [])) := by
  have hql : hq.length = σ.took.length - σ.sure := by rw [h.qb.1, List.length_drop]
  obtain ⟨_, _, hcr⟩ := Kd.Q_reads' h.q
  obtain ⟨ad, rfl, hc⟩ := at_H hcr ((k - σ.sure : Nat) : Int) (by omega) (by omega)
  rw [Int.toNat_natCast] at hc
  have hi : k - σ.sure < hq.length := by omega
  have hg : hq[k - σ.sure]? = some (rdH hq ((k - σ.sure : Nat) : Int)) := by
    unfold rdH
    rw [Int.toNat_natCast, List.getD_eq_getElem?_getD, List.getElem?_eq_getElem hi, Option.getD_some]
  have hb : (σ.took.drop σ.sure)[k - σ.sure]? = some (σ.took.getD k []) := by
    rw [List.getElem?_drop, show σ.sure + (k - σ.sure) = k by omega, List.getD_eq_getElem?_getD, List.getElem?_eq_getElem h2, Option.getD_some]
  have hbd := h.qb.2 _ _ _ hg hb
  obtain ⟨e1, e2, e3⟩ := Kd.R_reads' hbd
  exact ⟨ad, rfl, _, hc, ⟨e1⟩, ⟨by rw [← e1]; exact e2⟩, ⟨Kd.C_drew e3⟩⟩
/-- What stands at the end of Out: what goes out, the end. -/
structure FinS (w : World) (B N : Nat) (S : Nat → Prop) (p : Nat) (σ : Lk) (b : Nat) (vq vi : Value) (hq hi : List Hd) (n s : Nat) (f : Int → Option Value) (fs : List (List Int)) (v : Value) (hs : List Hd) (W : World) : Prop where
  lp : LPx W B N S p { σ with sent := newSent σ } b vq vi hq hi n s f
  fr : FrL B S S w W
  ov : OVx W w.heap.size (w.heap.size + 1) fs v hs
theorem FinS.of {v : Value} {hs : List Hd} (h : IO w B N S p σ b vq vi hq hi n s f (dueL σ, newSent σ) W) (hv : OVx W w.heap.size (w.heap.size + 1) ((dueL σ).map (fData σ)) v hs) : FinS w B N S p σ b vq vi hq hi n s f ((dueL σ).map (fData σ)) v hs W := ⟨h.lp, h.fr, hv⟩
theorem FinS.ack {v : Value} {hs : List Hd} (h0 : LPx w B N S p σ b vq vi hq hi n s f) (h : IO w B N S p σ b vq vi hq hi n s f (dueL σ, newSent σ) W) {W5 : World} {fs : List (List Int)} (hv : OVx W5 w.heap.size (w.heap.size + 1) fs v hs) (hb : Below w.heap.size W W5) (h5 : Keep5 W W5) :
    FinS w B N S p σ b vq vi hq hi n s f fs v hs W5 := by
  have hB : B ≤ w.heap.size := by have := h0.ge p h0.sp; have := blk_lt h0.blk; omega
  exact ⟨LPx.step h.lp (fun k hk => hb.block k (h0.lt k hk)) hb.size h5, ⟨h.fr.b.trans (hb.mono hB), ⟨Nat.le_trans h.fr.b.size hb.size, fun i hi hn => (hb.block i hi).trans (h.fr.k.2 i hi hn)⟩, h.fr.k5.trans h5, fun k hk => .inl hk⟩, hv⟩
theorem FinS.done {fs : List (List Int)} {v : Value} {hs : List Hd} (h0 : LPx w B N S p σ b vq vi hq hi n s f) (h : FinS w B N S p σ b vq vi hq hi n s f fs v hs W) {D : Nat} (hD : w.heap.size ≤ D) (hK : W.heap[D]? = some (.deferred (some []))) :
    (((W.setCell ⟨p, 7, none⟩ (.bool false)).setCell ⟨p, 8, none⟩ (.bool false)).drew).heap[D]? = some (.deferred (some [])) ∧
    (((W.setCell ⟨p, 7, none⟩ (.bool false)).setCell ⟨p, 8, none⟩ (.bool false)).drew).cell? ⟨w.heap.size + 1, 0, none⟩ = some v ∧
    kH.Q 30 ((((W.setCell ⟨p, 7, none⟩ (.bool false)).setCell ⟨p, 8, none⟩ (.bool false)).drew).putObj D (.deferred none)) w.heap.size (fun k => some k = v.ownBlock) v hs ∧
    Bods ((((W.setCell ⟨p, 7, none⟩ (.bool false)).setCell ⟨p, 8, none⟩ (.bool false)).drew).putObj D (.deferred none)) w.heap.size hs fs ∧
    LP ((((W.setCell ⟨p, 7, none⟩ (.bool false)).setCell ⟨p, 8, none⟩ (.bool false)).drew).putObj D (.deferred none)) B N S p (outL σ).2 ∧
    FrL B S S w ((((W.setCell ⟨p, 7, none⟩ (.bool false)).setCell ⟨p, 8, none⟩ (.bool false)).drew).putObj D (.deferred none)) := by
  obtain ⟨g0, g1, g2, g3, g4, g5, g6, g7⟩ := LPx.put h.lp 7 (.bool false)
  have hx7 : LPx (W.setCell ⟨p, 7, none⟩ (.bool false)) B N S p { σ with sent := newSent σ, owes := false } b vq vi hq hi n s f :=
    ⟨g0, g1, g2, g3, g4, g5, h.lp.mn, g6, h.lp.sp, h.lp.sb, h.lp.sq, h.lp.si, h.lp.ap, fun k hk => by rw [World.size_setCell]; exact h.lp.lt k hk, h.lp.ge⟩
  obtain ⟨g0, g1, g2, g3, g4, g5, g6, g7'⟩ := LPx.put hx7 8 (.bool false)
  have hx8 : LPx ((W.setCell ⟨p, 7, none⟩ (.bool false)).setCell ⟨p, 8, none⟩ (.bool false)) B N S p (outL σ).2 b vq vi hq hi n s f :=
    ⟨g0, g1, g2, g3, g4, g5, hx7.mn, g6, hx7.sp, hx7.sb, hx7.sq, hx7.si, hx7.ap, fun k hk => by rw [World.size_setCell]; exact hx7.lt k hk, hx7.ge⟩
  have hpo : p ≠ w.heap.size + 1 := by have := blk_lt h0.blk; omega
  have f7 : FrL B S S w ((W.setCell ⟨p, 7, none⟩ (.bool false)).setCell ⟨p, 8, none⟩ (.bool false)) := FrL.trans h.fr (FrL.trans (FrL.set (h.lp.ge p h.lp.sp) h.lp.sp ⟨_, h.lp.blk⟩ 7 _) (FrL.set (hx7.ge p hx7.sp) hx7.sp ⟨_, hx7.blk⟩ 8 _))
  have hfar : ∀ {X : World}, OVx X w.heap.size (w.heap.size + 1) fs v hs → ∀ {j : Nat} {cs : Array Value} {u : Value}, X.heap[p]? = some (.cells cs 82 (0, 0)) → OVx (X.setCell ⟨p, j, none⟩ u) w.heap.size (w.heap.size + 1) fs v hs := fun {X} ho {j cs u} hb =>
    ⟨by rw [Below.heap_setCell _ _ _ _ (fun e => hpo e.symm)]; exact ho.box, Kd.Q_far ho.q (fun k hk e => by
      obtain ⟨cs', hc⟩ := Kd.Q_typed ho.q k hk.symm
      rw [show k = p from e, hb] at hc; cases hc) u, ho.b.keep (Keep5.set hb (by decide))⟩
  have o8 := hfar (hfar h.ov (j := 7) (u := .bool false) h.lp.blk) (j := 8) (u := .bool false) hx7.blk
  have hpD : p ≠ D := by have := blk_lt h0.blk; omega
  have hKD : ((W.setCell ⟨p, 7, none⟩ (.bool false)).setCell ⟨p, 8, none⟩ (.bool false)).heap[D]? = some (.deferred (some [])) := by
    rw [Below.heap_setCell _ _ _ _ (fun e => hpD e.symm), Below.heap_setCell _ _ _ _ (fun e => hpD e.symm)]; exact hK
  generalize hW8 : (W.setCell ⟨p, 7, none⟩ (.bool false)).setCell ⟨p, 8, none⟩ (.bool false) = W8 at hx8 f7 o8 hKD ⊢
  clear hW8
  have hB : B ≤ w.heap.size := by have := h0.ge p h0.sp; have := blk_lt h0.blk; omega
  have hg : W8.drew.grownBy (W8.drew.putObj D (.deferred none)) (some D) := grownBy_putObj' W8.drew D _
  have hcD : ∀ k cs t, W8.drew.heap[k]? = some (.cells cs t (0, 0)) → k ≠ D := fun k cs t hk e => by
    have e2 : W8.drew.heap[D]? = some (.deferred (some [])) := hKD
    rw [e, e2] at hk; cases hk
  have k5 : Keep5 W8.drew (W8.drew.putObj D (.deferred none)) := Keep5.grown hg (fun k hk cs hc => hcD k cs 5 hc (Option.some.inj hk).symm)
  have bd : Below W8.heap.size W8 W8.drew := below_drew (Below.refl _ _)
  have hxd := LPx.below hx8 bd
  have od := o8.below bd
  have fd := FrL.below f7 bd (Nat.le_trans hB f7.b.size)
  have hlow : ∀ k, k < w.heap.size → (W8.drew.putObj D (.deferred none)).heap[k]? = W8.drew.heap[k]? := fun k hk => hg.block k (Nat.lt_of_lt_of_le hk fd.b.size) (fun e => by cases e; omega)
  refine ⟨hKD, blk_cell od.box 0, Kd.Q_step od.q (fun k hk _ => ?_), od.b.keep k5, ⟨b, vq, vi, hq, hi, n, s, f, LPx.step hxd (fun k hk => hlow k (h0.lt k hk)) hg.size k5⟩, ⟨pw_below_grown fd.b _ (Nat.le_trans hB fd.b.size) hg (fun k hk => by cases hk; omega), ⟨Nat.le_trans fd.b.size hg.size, fun i hi hn => (hlow i hi).trans (fd.k.2 i hi hn)⟩, fd.k5.trans k5, fun k hk => .inl hk⟩⟩
  obtain ⟨cs, hc⟩ := Kd.Q_typed od.q k hk.symm
  exact hg.block k (blk_lt hc) (fun e => hcD k cs 30 hc (Option.some.inj e))
/-- The world where the range begins. -/
def wlO (w : World) (p : Nat) : World := (((w.alloc (.cells #[.pointer (some ⟨p, 0, none⟩)] 22)).alloc (.cells #[.slice none 0 0] 44)).alloc (.cells #[.func (.func 52) #[] #[.pointer (some ⟨w.heap.size + 1, 0, none⟩)]] 94)).alloc (.cells #[.pointer (some ⟨p, 0, none⟩)] 22)
theorem wlO_size (w : World) (p : Nat) : (wlO w p).heap.size = w.heap.size + 4 := by unfold wlO; rw [size_al, size_al, size_al, size_al]
theorem io_start (h0 : LPx w B N S p σ b vq vi hq hi n s f) : IO w B N S p σ b vq vi hq hi n s f ([], σ.sent) (wlO w p) := by
  have hb : Below w.heap.size w (wlO w p) := below_alloc (below_alloc (below_alloc (below_alloc (Below.refl _ _) _) _) _) _
  have hB : B ≤ w.heap.size := by have := h0.ge p h0.sp; have := blk_lt h0.blk; omega
  have e1 : (wlO w p).heap[w.heap.size]? = some (.cells #[.pointer (some ⟨p, 0, none⟩)] 22 (0, 0)) := by
    have h1 := blk_new w (.cells #[.pointer (some ⟨p, 0, none⟩)] 22)
    exact blk_alloc (blk_alloc (blk_alloc h1 _) _) _
  have e2 : (wlO w p).heap[w.heap.size + 1]? = some (.cells #[.slice none 0 0] 44 (0, 0)) := by
    have h1 := blk_new (w.alloc (.cells #[.pointer (some ⟨p, 0, none⟩)] 22)) (.cells #[.slice none 0 0] 44)
    rw [size_al] at h1
    exact blk_alloc (blk_alloc h1 _) _
  have e3 : (wlO w p).heap[w.heap.size + 2]? = some (.cells #[.func (.func 52) #[] #[.pointer (some ⟨w.heap.size + 1, 0, none⟩)]] 94 (0, 0)) := by
    have h1 := blk_new ((w.alloc (.cells #[.pointer (some ⟨p, 0, none⟩)] 22)).alloc (.cells #[.slice none 0 0] 44)) (.cells #[.func (.func 52) #[] #[.pointer (some ⟨w.heap.size + 1, 0, none⟩)]] 94)
    rw [size_al, size_al] at h1
    exact blk_alloc h1 _
  have e4 : (wlO w p).heap[w.heap.size + 3]? = some (.cells #[.pointer (some ⟨p, 0, none⟩)] 22 (0, 0)) := by
    have h1 := blk_new (((w.alloc (.cells #[.pointer (some ⟨p, 0, none⟩)] 22)).alloc (.cells #[.slice none 0 0] 44)).alloc (.cells #[.func (.func 52) #[] #[.pointer (some ⟨w.heap.size + 1, 0, none⟩)]] 94)) (.cells #[.pointer (some ⟨p, 0, none⟩)] 22)
    rw [size_al, size_al, size_al] at h1
    exact h1
  exact ⟨LPx.below h0 hb, FrL.below (FrL.refl B S w) hb hB, ⟨.slice none 0 0, [], e2, Kd.Q_nil _ _ _ _ _, Bods.nil _ _⟩, e1, e3, e4⟩
end
set_option maxRecDepth 100000 in
set_option maxHeartbeats 4000000 in
theorem out_calls (h : LP w B N S p σ) {M : Nat} (hI : Inv M σ) (hM : M ≤ 50000) :
    Calls Try.prog 21 #[.pointer (some ⟨p, 0, none⟩)] w fun e w' => ∃ v, e = .returned v ∧ ∃ hs, kH.Q 30 w' w.heap.size (fun k => some k = v.ownBlock) v hs ∧ Bods w' w.heap.size hs (outL σ).1 ∧ LP w' B N S p (outL σ).2 ∧ FrL B S S w w' := by
  obtain ⟨b, vq, vi, hq, hi, n, s, f, hx⟩ := h
  obtain ⟨A0, c0, rfl, hcap0⟩ := Kd.Q_slice hx.q
  have HX := Aside0.mk hx
  have HI := Aside0.mk (And.intro hI hM)
  have HP := Aside0.mk (blk_lt hx.blk)
  clear hx hI hM
  refine (callsIn_wide (n := 5)).1 ?_
  refine callsIn_of_wp_marks Try.func21 rfl trivial ?_ rfl
  simp only [Try.ntmps21, List.size_toArray, List.length_cons, List.length_nil, Nat.reduceAdd, Nat.reduceSub, Array.replicate_succ, Array.replicate_zero, List.push_toArray, List.append_toArray, List.nil_append, List.cons_append]
  gi_wp2
  refine ⟨trivial, (callsIn_wide.2 (due_calls _)).mono ?_⟩
  rintro e w' ⟨rfl, rfl⟩
  gi_wp2
  have HST := Aside0.mk (io_start HX.out)
  have hsz := wlO_size w p
  rw [show (((w.alloc (.cells #[.pointer (some ⟨p, 0, none⟩)] 22)).alloc (.cells #[.slice none 0 0] 44)).alloc (.cells #[.func (.func 52) #[] #[.pointer (some ⟨w.heap.size + 1, 0, none⟩)]] 94)).alloc (.cells #[.pointer (some ⟨p, 0, none⟩)] 22) = wlO w p from rfl]
  generalize wlO w p = wl at HST hsz ⊢
  have HSZ := Aside0.mk hsz
  clear hsz
  refine range_of (n := 5) (by omega) (gf := 81) (lb := #[.pointer (some ⟨w.heap.size + 3, 0, none⟩)]) rfl (enters_of Try.func81 (by kernel_rfl) rfl) (IO w B N S p σ b (.slice A0 hq.length c0) vi hq hi n s f) (s0 := ([], σ.sent)) (s1 := (dueL σ, newSent σ)) (fun _ => rfl) (due1 HI.out.1 (by have := HI.out.2; omega) HP.out 4 (by omega) wl (by have := HSZ.out; omega)) (io_own HX.out (by have := HSZ.out; omega)) HST.out
    (fun x => { tmps := #[.pointer (some ⟨p, 0, none⟩), .pointer (some ⟨w.heap.size, 0, none⟩), .slice none 0 0, .pointer (some ⟨w.heap.size + 1, 0, none⟩), .pointer (some ⟨w.heap.size + 1 + 1, 0, none⟩), .int .i64 x, .func (.func 52) #[] #[.pointer (some ⟨w.heap.size + 1, 0, none⟩)], .pointer (some ⟨p, 0, none⟩), .func (.func 81) #[] #[.pointer (some ⟨w.heap.size + 1 + 1 + 1, 0, none⟩)], .int .i64 x, undef, undef, undef, undef, undef, undef, undef, undef, undef, undef, undef, undef, undef, undef, undef, undef, undef, undef, undef, undef, undef, undef, undef, undef, undef, undef, undef, undef, undef, undef, undef, undef, undef, undef, undef, undef, undef, undef, undef, undef, undef, undef, undef], defers := [] }) ?assign ?body ?done
  case assign =>
    intro l x W K hK
    gi_wp2
    exact hK
  case body =>
    rintro l st x W hio ⟨k, rfl, h1, h2, h3⟩
    have hql : hq.length = σ.took.length - σ.sure := by rw [hio.lp.qb.1, List.length_drop]
    obtain ⟨ad, hA0, hd, hce, HHN, HBN, HBC⟩ := q_at hio.lp h1 h2
    have HIOd := Aside0.mk hio.drew
    have HRT := Aside0.mk (Pq.right_of true k σ.all.length (σ.took.getD k []) (by have := HI.out.1.tk; have := HI.out.2; omega) (by have := HI.out.1.al; have := HI.out.2; omega) (HI.out.1.ht _ (mem_getD h2)).1 (fun e => nomatch e))
    have HKB := Aside0.mk (show k ≤ 1073741824 ∧ σ.all.length ≤ 1073741824 by have := HI.out.1.tk; have := HI.out.1.al; have := HI.out.2; omega)
    have HOKB := Aside0.mk (HI.out.1.ht _ (mem_getD h2))
    have hwr : wrap64 ((k : Int) - (σ.sure : Int)) = (k : Int) - (σ.sure : Int) := by have := HI.out.1.tk; have := HI.out.2; unfold wrap64; omega
    have hi0 : (0 : Int) ≤ (k : Int) - (σ.sure : Int) := by omega
    have hi1 : (k : Int) - (σ.sure : Int) < (hq.length : Int) := by omega
    have H3 := Aside0.mk h3
    have HS0 : W.drew.cell? ⟨w.heap.size + 1 + 1, 0, none⟩ = some (.func (.func 52) #[] #[.pointer (some ⟨w.heap.size + 1, 0, none⟩)]) ∧ W.drew.cell? ⟨w.heap.size, 0, none⟩ = some (.pointer (some ⟨p, 0, none⟩)) ∧ W.drew.cell? ⟨p, 5, none⟩ = some (.int .i64 (σ.all.length : Int)) ∧ W.drew.cell? ⟨p, 1, none⟩ = some (.slice (some ad) hq.length c0) ∧ W.drew.cell? ⟨p, 2, none⟩ = some (.int .i64 (σ.sure : Int)) ∧ W.drew.cell? (ad.add (k - σ.sure)) = some (.slice hd.a hd.n hd.c) :=
      ⟨blk_cell HIOd.out.pb 0, blk_cell HIOd.out.bx 0, blk_cell HIOd.out.lp.blk 5, by rw [← hA0]; exact blk_cell HIOd.out.lp.blk 1, blk_cell HIOd.out.lp.blk 2, hce⟩
    clear hio hce h3 hql hA0
    gi_wp2
    refine region_round (N := 20) (S := fun w' => w'.cell? ⟨w.heap.size + 1 + 1, 0, none⟩ = some (.func (.func 52) #[] #[.pointer (some ⟨w.heap.size + 1, 0, none⟩)]) ∧ w'.cell? ⟨w.heap.size, 0, none⟩ = some (.pointer (some ⟨p, 0, none⟩)) ∧ w'.cell? ⟨p, 5, none⟩ = some (.int .i64 (σ.all.length : Int)) ∧ w'.cell? ⟨p, 1, none⟩ = some (.slice (some ad) hq.length c0) ∧ w'.cell? ⟨p, 2, none⟩ = some (.int .i64 (σ.sure : Int)) ∧ w'.cell? (ad.add (k - σ.sure)) = some (.slice hd.a hd.n hd.c)) (ds := [19]) #[false, false, false, false, false, false, false, false, false, false, false, false, false, false, false, false, false, false, false, false] (by kernel_rfl) (noDefer_of (by kernel_rfl)) (by rintro ⟨_, _, h⟩; exact h) rfl rfl HS0 (fun hHeld => ?_)
    refine take_ (i := 0) (N := some 10) (v := ?_) (a' := ?_) #[true, false, false, false, false, false, false, false, false, false, false, false, false, false, false, false, false, false, false, false] rfl rfl (by kernel_rfl) (fun _ _ _ h => h) (Or.inl ⟨by rfl, ?_⟩) hHeld ?_ ?_
    rotate_left
    · rintro w' ⟨q1, q2, q3, q4, q5, q6⟩
      go_simp
      try with_reducible rfl
    rotate_left
    · simp only [Act.put, List.setIfInBounds_toArray, List.set_cons_zero, List.set_cons_succ, i64_w, i32_w]
      rfl
    refine pure_ (i := 1) (N := some 11) (v := ?_) (a' := ?_) #[true, true, false, false, false, false, false, false, false, false, false, false, false, false, false, false, false, false, false, false] rfl rfl (by kernel_rfl) (fun _ _ _ h => h) (Or.inl ⟨by rfl, ?_⟩) ?_ ?_
    rotate_left
    · intro w'
      go_simp
      try with_reducible rfl
    rotate_left
    · simp only [Act.put, List.setIfInBounds_toArray, List.set_cons_zero, List.set_cons_succ, i64_w, i32_w]
      rfl
    refine take_ (i := 2) (N := some 12) (v := ?_) (a' := ?_) #[true, true, true, false, false, false, false, false, false, false, false, false, false, false, false, false, false, false, false, false] rfl rfl (by kernel_rfl) (fun _ _ _ h => h) (Or.inl ⟨by rfl, ?_⟩) hHeld ?_ ?_
    rotate_left
    · rintro w' ⟨q1, q2, q3, q4, q5, q6⟩
      go_simp
      try with_reducible rfl
    rotate_left
    · simp only [Act.put, List.setIfInBounds_toArray, List.set_cons_zero, List.set_cons_succ, i64_w, i32_w]
      rfl
    refine pure_ (i := 3) (N := some 13) (v := ?_) (a' := ?_) #[true, true, true, true, false, false, false, false, false, false, false, false, false, false, false, false, false, false, false, false] rfl rfl (by kernel_rfl) (fun _ _ _ h => h) (Or.inl ⟨by rfl, ?_⟩) ?_ ?_
    rotate_left
    · intro w'
      go_simp
      try with_reducible rfl
    rotate_left
    · simp only [Act.put, List.setIfInBounds_toArray, List.set_cons_zero, List.set_cons_succ, i64_w, i32_w]
      rfl
    refine pure_ (i := 4) (N := some 14) (v := ?_) (a' := ?_) #[true, true, true, true, true, false, false, false, false, false, false, false, false, false, false, false, false, false, false, false] rfl rfl (by kernel_rfl) (fun _ _ _ h => h) (Or.inl ⟨by rfl, ?_⟩) ?_ ?_
    rotate_left
    · intro w'
      go_simp
      try with_reducible rfl
    rotate_left
    · simp only [Act.put, List.setIfInBounds_toArray, List.set_cons_zero, List.set_cons_succ, i64_w, i32_w]
      rfl
    refine take_ (i := 5) (N := some 15) (v := ?_) (a' := ?_) #[true, true, true, true, true, true, false, false, false, false, false, false, false, false, false, false, false, false, false, false] rfl rfl (by kernel_rfl) (fun _ _ _ h => h) (Or.inl ⟨by rfl, ?_⟩) hHeld ?_ ?_
    rotate_left
    · rintro w' ⟨q1, q2, q3, q4, q5, q6⟩
      go_simp
      try with_reducible rfl
    rotate_left
    · simp only [Act.put, List.setIfInBounds_toArray, List.set_cons_zero, List.set_cons_succ, i64_w, i32_w]
      rfl
    refine take_ (i := 6) (N := some 16) (v := ?_) (a' := ?_) #[true, true, true, true, true, true, true, false, false, false, false, false, false, false, false, false, false, false, false, false] rfl rfl (by kernel_rfl) (fun _ _ _ h => h) (Or.inl ⟨by rfl, ?_⟩) hHeld ?_ ?_
    rotate_left
    · rintro w' ⟨q1, q2, q3, q4, q5, q6⟩
      go_simp
      try with_reducible rfl
    rotate_left
    · simp only [Act.put, List.setIfInBounds_toArray, List.set_cons_zero, List.set_cons_succ, i64_w, i32_w]
      rfl
    refine pure_ (i := 7) (N := some 17) (v := ?_) (a' := ?_) #[true, true, true, true, true, true, true, true, false, false, false, false, false, false, false, false, false, false, false, false] rfl rfl (by kernel_rfl) (fun _ _ _ h => h) (Or.inl ⟨by rfl, ?_⟩) ?_ ?_
    rotate_left
    · intro w'
      go_simp
      try with_reducible rfl
    rotate_left
    · simp only [Act.put, List.setIfInBounds_toArray, List.set_cons_zero, List.set_cons_succ, i64_w, i32_w]
      rfl
    refine pure_ (i := 8) (N := some 18) (v := ?_) (a' := ?_) #[true, true, true, true, true, true, true, true, true, false, false, false, false, false, false, false, false, false, false, false] rfl rfl (by kernel_rfl) (fun _ _ _ h => h) (Or.inl ⟨by rfl, ?_⟩) ?_ ?_
    rotate_left
    · intro w'
      go_simp
      try with_reducible rfl
    rotate_left
    · simp only [Act.put, List.setIfInBounds_toArray, List.set_cons_zero, List.set_cons_succ, i64_w, i32_w]
      rfl
    refine take_ (i := 9) (N := some 19) (v := ?_) (a' := ?_) #[true, true, true, true, true, true, true, true, true, true, false, false, false, false, false, false, false, false, false, false] rfl rfl (by kernel_rfl) (fun _ _ _ h => h) (Or.inl ⟨by rfl, ?_⟩) hHeld ?_ ?_
    rotate_left
    · rintro w' ⟨q1, q2, q3, q4, q5, q6⟩
      go_simp
      try with_reducible rfl
    rotate_left
    · simp only [Act.put, List.setIfInBounds_toArray, List.set_cons_zero, List.set_cons_succ, i64_w, i32_w]
      rfl
    refine pure_ (i := 10) (N := some 20) (v := ?_) (a' := ?_) #[true, true, true, true, true, true, true, true, true, true, true, false, false, false, false, false, false, false, false, false] rfl rfl (by kernel_rfl) (fun _ _ _ h => h) (Or.inl ⟨by rfl, ?_⟩) ?_ ?_
    rotate_left
    · intro w'
      go_simp
      try with_reducible rfl
    rotate_left
    · simp only [Act.put, List.setIfInBounds_toArray, List.set_cons_zero, List.set_cons_succ, i64_w, i32_w]
      rfl
    refine take_ (i := 11) (N := some 21) (v := ?_) (a' := ?_) #[true, true, true, true, true, true, true, true, true, true, true, true, false, false, false, false, false, false, false, false] rfl rfl (by kernel_rfl) (fun _ _ _ h => h) (Or.inl ⟨by rfl, ?_⟩) hHeld ?_ ?_
    rotate_left
    · rintro w' ⟨q1, q2, q3, q4, q5, q6⟩
      go_simp
      try with_reducible rfl
    rotate_left
    · simp only [Act.put, List.setIfInBounds_toArray, List.set_cons_zero, List.set_cons_succ, i64_w, i32_w]
      rfl
    refine pure_ (i := 12) (N := some 22) (v := ?_) (a' := ?_) #[true, true, true, true, true, true, true, true, true, true, true, true, true, false, false, false, false, false, false, false] rfl rfl (by kernel_rfl) (fun _ _ _ h => h) (Or.inl ⟨by rfl, ?_⟩) ?_ ?_
    rotate_left
    · intro w'
      go_simp
      try with_reducible rfl
    rotate_left
    · simp only [Act.put, List.setIfInBounds_toArray, List.set_cons_zero, List.set_cons_succ, i64_w, i32_w]
      rfl
    refine pure_ (i := 13) (N := some 23) (v := ?_) (a' := ?_) #[true, true, true, true, true, true, true, true, true, true, true, true, true, true, false, false, false, false, false, false] rfl rfl (by kernel_rfl) (fun _ _ _ h => h) (Or.inl ⟨by rfl, ?_⟩) ?_ ?_
    rotate_left
    · intro w'
      go_simp
      try with_reducible rfl
    rotate_left
    · simp only [Act.put, List.setIfInBounds_toArray, List.set_cons_zero, List.set_cons_succ, i64_w, i32_w]
      rfl
    refine take_ (i := 14) (N := some 24) (v := ?_) (a' := ?_) #[true, true, true, true, true, true, true, true, true, true, true, true, true, true, true, false, false, false, false, false] rfl rfl (by kernel_rfl) (fun _ _ _ h => h) (Or.inl ⟨by rfl, ?_⟩) hHeld ?_ ?_
    rotate_left
    · rintro w' ⟨q1, q2, q3, q4, q5, q6⟩
      go_simp
      try with_reducible rfl
    rotate_left
    · simp only [Act.put, List.setIfInBounds_toArray, List.set_cons_zero, List.set_cons_succ, i64_w, i32_w]
      rfl
    refine pure_ (i := 15) (N := some 25) (v := ?_) (a' := ?_) #[true, true, true, true, true, true, true, true, true, true, true, true, true, true, true, true, false, false, false, false] rfl rfl (by kernel_rfl) (fun _ _ _ h => h) (Or.inl ⟨by rfl, ?_⟩) ?_ ?_
    rotate_left
    · intro w'
      go_simp
      try with_reducible rfl
    rotate_left
    · simp only [Act.put, List.setIfInBounds_toArray, List.set_cons_zero, List.set_cons_succ, i64_w, i32_w]
      rfl
    refine pure_ (i := 16) (N := some 26) (v := ?_) (a' := ?_) #[true, true, true, true, true, true, true, true, true, true, true, true, true, true, true, true, true, false, false, false] rfl rfl (by kernel_rfl) (fun _ _ _ h => h) (Or.inl ⟨by rfl, ?_⟩) ?_ ?_
    rotate_left
    · intro w'
      go_simp
      try with_reducible rfl
    rotate_left
    · simp only [Act.put, List.setIfInBounds_toArray, List.set_cons_zero, List.set_cons_succ, i64_w, i32_w]
      rfl
    refine take_ (i := 17) (N := some 27) (v := ?_) (a' := ?_) #[true, true, true, true, true, true, true, true, true, true, true, true, true, true, true, true, true, true, false, false] rfl rfl (by kernel_rfl) (fun _ _ _ h => h) (Or.inl ⟨by rfl, ?_⟩) hHeld ?_ ?_
    rotate_left
    · rintro w' ⟨q1, q2, q3, q4, q5, q6⟩
      go_simp
      try with_reducible rfl
    rotate_left
    · simp only [Act.put, List.setIfInBounds_toArray, List.set_cons_zero, List.set_cons_succ, i64_w, i32_w]
      rfl
    refine pure_ (i := 18) (N := some 28) (v := ?_) (a' := ?_) #[true, true, true, true, true, true, true, true, true, true, true, true, true, true, true, true, true, true, true, false] rfl rfl (by kernel_rfl) (fun _ _ _ h => h) (Or.inl ⟨by rfl, ?_⟩) ?_ ?_
    rotate_left
    · intro w'
      go_simp
      try with_reducible rfl
    rotate_left
    · simp only [Act.put, List.setIfInBounds_toArray, List.set_cons_zero, List.set_cons_succ, i64_w, i32_w]
      rfl
    refine last_ (i := 19) (N := some 29) #[true, true, true, true, true, true, true, true, true, true, true, true, true, true, true, true, true, true, true, true] rfl rfl (by kernel_rfl) (by decide) (fun K hK => ?_)
    refine call_ 52 #[.agg #[.bool true, .int .i64 (k : Int), .int .i64 (σ.all.length : Int), .slice hd.a hd.n hd.c], .pointer (some ⟨w.heap.size + 1, 0, none⟩)] (by rfl) rfl (by first | (go_simp; done) | (go_simp; rfl)) ?_
    rw [HHN.out]
    refine (put_calls HIOd.out.ov (Nat.le_succ _) (by rw [List.length_map]; have := H3.out; omega) true k σ.all.length hd.a hd.c _ HBC.out HBN.out HRT.out HKB.out.1 HKB.out.2 HOKB.out.1 HOKB.out.2).mono ?_
    rintro e w5 ⟨rfl, hov, hbel, hoth, hk5, hpk⟩
    refine ⟨_, rfl, ?_⟩
    refine hK.out _ _ ?_
    clear hK K
    refine done_ (by kernel_rfl) ?_
    exact ⟨(((KeepsOthers.drew W).trans hoth).from _), io_put HX.out HIOd.out hov hbel hk5 hpk⟩
  case done =>
    rintro D W hD hio hK
    obtain ⟨v, hs, hov⟩ := hio.ov
    obtain ⟨Av, cv, rfl, _⟩ := Kd.Q_slice hov.q
    have hhl : hs.length = (dueL σ).length := by rw [hov.b.1, List.length_map]
    obtain ⟨m, hm⟩ : ∃ m, m = hs.length := ⟨_, rfl⟩
    rw [← hm] at hhl hov
    have o0 : W.cell? ⟨w.heap.size + 1, 0, none⟩ = some (.slice Av m cv) := blk_cell hov.box 0
    have x0 : W.cell? ⟨w.heap.size, 0, none⟩ = some (.pointer (some ⟨p, 0, none⟩)) := blk_cell hio.bx 0
    have p7 : W.cell? ⟨p, 7, none⟩ = some (.bool σ.owes) := blk_cell hio.lp.blk 7
    have p8 : W.cell? ⟨p, 8, none⟩ = some (.bool σ.tick) := blk_cell hio.lp.blk 8
    have z7 : W.frozen? ⟨p, 7, none⟩ = false := blk_frozen hio.lp.blk 7
    have z8 : W.frozen? ⟨p, 8, none⟩ = false := blk_frozen hio.lp.blk 8
    have HIO := Aside0.mk hio
    have HOV := Aside0.mk hov
    have HD := Aside0.mk (show w.heap.size ≤ D by have := HSZ.out; omega)
    have HK := Aside0.mk hK
    by_cases hm0 : m = 0
    · cases how : σ.owes with
      | true =>
        have HO := Aside0.mk (show (outL σ).1 = [fAck σ] by unfold outL; dsimp only; rw [if_pos ⟨by omega, how⟩])
        have HDN := Aside0.mk (show dueL σ = [] from List.eq_nil_of_length_eq_zero (by omega))
        rw [how] at p7
        have HOW := Aside0.mk how
        clear hio hov hD hK hm how hhl
        subst hm0
        gi_wp2
        refine wpIn_wide.2 ?_
        have HIOd := Aside0.mk HIO.out.drew
        have HAL := Aside0.mk (show σ.all.length ≤ 1000000 by have := HI.out.1.al; have := HI.out.2; omega)
        have HRT := Aside0.mk (Pq.right_of false 0 σ.all.length [] (by omega) HAL.out (by simp) (fun _ => ⟨rfl, rfl⟩))
        have HS0 : W.drew.cell? ⟨w.heap.size + 1 + 1, 0, none⟩ = some (.func (.func 52) #[] #[.pointer (some ⟨w.heap.size + 1, 0, none⟩)]) ∧ W.drew.cell? ⟨w.heap.size, 0, none⟩ = some (.pointer (some ⟨p, 0, none⟩)) ∧ W.drew.cell? ⟨p, 5, none⟩ = some (.int .i64 (σ.all.length : Int)) :=
          ⟨blk_cell HIOd.out.pb 0, blk_cell HIOd.out.bx 0, blk_cell HIOd.out.lp.blk 5⟩
        clear p7 p8 z7 z8 o0 x0
        refine Code.wp_mono onlyN_up ?_
        refine start_ (n := 7) (S := fun w' => w'.cell? ⟨w.heap.size + 1 + 1, 0, none⟩ = some (.func (.func 52) #[] #[.pointer (some ⟨w.heap.size + 1, 0, none⟩)]) ∧ w'.cell? ⟨w.heap.size, 0, none⟩ = some (.pointer (some ⟨p, 0, none⟩)) ∧ w'.cell? ⟨p, 5, none⟩ = some (.int .i64 (σ.all.length : Int))) (ds := [6]) #[false, false, false, false, false, false, false] (by kernel_rfl) rfl rfl HS0 (fun hHeld => ?_)
        refine take_ (i := 0) (N := some 39) (v := ?_) (a' := ?_) #[true, false, false, false, false, false, false] rfl rfl (by kernel_rfl) (fun _ _ _ h => h) (Or.inl ⟨by rfl, ?_⟩) hHeld ?_ ?_
        rotate_left
        · rintro w' ⟨q1, q2, q3⟩
          go_simp
          try with_reducible rfl
        rotate_left
        · simp only [Act.put, List.setIfInBounds_toArray, List.set_cons_zero, List.set_cons_succ, i64_w, i32_w]
          rfl
        refine take_ (i := 1) (N := some 40) (v := ?_) (a' := ?_) #[true, true, false, false, false, false, false] rfl rfl (by kernel_rfl) (fun _ _ _ h => h) (Or.inl ⟨by rfl, ?_⟩) hHeld ?_ ?_
        rotate_left
        · rintro w' ⟨q1, q2, q3⟩
          go_simp
          try with_reducible rfl
        rotate_left
        · simp only [Act.put, List.setIfInBounds_toArray, List.set_cons_zero, List.set_cons_succ, i64_w, i32_w]
          rfl
        refine pure_ (i := 2) (N := some 41) (v := ?_) (a' := ?_) #[true, true, true, false, false, false, false] rfl rfl (by kernel_rfl) (fun _ _ _ h => h) (Or.inl ⟨by rfl, ?_⟩) ?_ ?_
        rotate_left
        · intro w'
          go_simp
          try with_reducible rfl
        rotate_left
        · simp only [Act.put, List.setIfInBounds_toArray, List.set_cons_zero, List.set_cons_succ, i64_w, i32_w]
          rfl
        refine pure_ (i := 3) (N := some 42) (v := ?_) (a' := ?_) #[true, true, true, true, false, false, false] rfl rfl (by kernel_rfl) (fun _ _ _ h => h) (Or.inl ⟨by rfl, ?_⟩) ?_ ?_
        rotate_left
        · intro w'
          go_simp
          try with_reducible rfl
        rotate_left
        · simp only [Act.put, List.setIfInBounds_toArray, List.set_cons_zero, List.set_cons_succ, i64_w, i32_w]
          rfl
        refine take_ (i := 4) (N := some 43) (v := ?_) (a' := ?_) #[true, true, true, true, true, false, false] rfl rfl (by kernel_rfl) (fun _ _ _ h => h) (Or.inl ⟨by rfl, ?_⟩) hHeld ?_ ?_
        rotate_left
        · rintro w' ⟨q1, q2, q3⟩
          go_simp
          try with_reducible rfl
        rotate_left
        · simp only [Act.put, List.setIfInBounds_toArray, List.set_cons_zero, List.set_cons_succ, i64_w, i32_w]
          rfl
        refine pure_ (i := 5) (N := some 44) (v := ?_) (a' := ?_) #[true, true, true, true, true, true, false] rfl rfl (by kernel_rfl) (fun _ _ _ h => h) (Or.inl ⟨by rfl, ?_⟩) ?_ ?_
        rotate_left
        · intro w'
          go_simp
          try with_reducible rfl
        rotate_left
        · simp only [Act.put, List.setIfInBounds_toArray, List.set_cons_zero, List.set_cons_succ, i64_w, i32_w]
          rfl
        refine last_ (i := 6) (N := some 45) #[true, true, true, true, true, true, true] rfl rfl (by kernel_rfl) (by decide) (fun K hK => ?_)
        refine call_ 52 #[.agg #[.bool false, .int .i64 ((0 : Nat) : Int), .int .i64 (σ.all.length : Int), .slice none ([] : List Int).length 0], .pointer (some ⟨w.heap.size + 1, 0, none⟩)] (by rfl) rfl (by first | (go_simp; done) | (go_simp; rfl)) ?_
        refine (put_calls HIOd.out.ov (Nat.le_succ _) (by rw [HDN.out]; simp) false 0 σ.all.length none 0 [] (Kd.C_nil _ _) (Nat.le_refl _) HRT.out (by omega) (by have := HAL.out; omega) (by simp) (by simp)).mono ?_
        rintro e w5 ⟨rfl, hov, hbel, hoth, hk5, hpk⟩
        have hbel2 : Below w.heap.size W w5 := ((below_drew (Below.refl _ W)).mono HIO.out.fr.b.size).trans hbel
        refine ⟨_, rfl, ?_⟩
        refine hK.out _ _ ?_
        clear hK K
        refine done_ (by kernel_rfl) ?_
        unfold onlyN
        dsimp only
        rw [HDN.out] at hov
        obtain ⟨v5, hs5, ho5⟩ := hov
        obtain ⟨A5, c5, rfl, _⟩ := Kd.Q_slice ho5.q
        have HF := Aside0.mk (FinS.ack HX.out HIOd.out ho5 hbel hk5)
        have hl5 := HF.out.lp
        have o0 : w5.cell? ⟨w.heap.size + 1, 0, none⟩ = some (.slice A5 hs5.length c5) := blk_cell ho5.box 0
        have x0 : w5.cell? ⟨w.heap.size, 0, none⟩ = some (.pointer (some ⟨p, 0, none⟩)) := blk_cell (hpk.block HIOd.out.bx (by omega) (by simp)) 0
        have p7 : w5.cell? ⟨p, 7, none⟩ = some (.bool true) := by rw [← HOW.out]; exact blk_cell hl5.blk 7
        have p8 : w5.cell? ⟨p, 8, none⟩ = some (.bool σ.tick) := blk_cell hl5.blk 8
        have z7 : w5.frozen? ⟨p, 7, none⟩ = false := blk_frozen hl5.blk 7
        have z8 : w5.frozen? ⟨p, 8, none⟩ = false := blk_frozen hl5.blk 8
        have HK5 := Aside0.mk (hoth.same D _ (show W.drew.heap[D]? = some (.deferred (some [])) from HK.out) rfl)
        clear ho5 hbel hoth hk5 hpk hbel2 hl5
        gi_wp2
        refine wpIn_wide.2 ?_
        go_region
        all_goals (
          obtain ⟨hkd, hcv, e1, e2, e3, e4⟩ := FinS.done HX.out HF.out HD.out HK5.out
          clear p7 p8 z7 z8 o0 x0
          gi_wp2
          refine ⟨by simp, .inl ⟨_, _, rfl, run_takeDeferred hkd, ?_⟩⟩
          exact ⟨_, results_tmp rfl _ _ _, .slice A5 hs5.length c5, rfl, _, e1, by rw [HO.out]; exact e2, e3, e4⟩)
      | false =>
        have HO := Aside0.mk (show (outL σ).1 = (dueL σ).map (fData σ) by unfold outL; dsimp only; rw [if_neg (by rw [how]; simp)])
        rw [how] at p7
        clear hio hov hD hK hm how hhl
        subst hm0
        gi_wp2
        have HF := Aside0.mk (FinS.of HIO.out HOV.out)
        refine wpIn_wide.2 ?_
        go_region
        all_goals (
          obtain ⟨hkd, hcv, e1, e2, e3, e4⟩ := FinS.done HX.out HF.out HD.out HK.out
          clear p7 p8 z7 z8 o0 x0
          gi_wp2
          refine ⟨by simp, .inl ⟨_, _, rfl, run_takeDeferred hkd, ?_⟩⟩
          exact ⟨_, results_tmp rfl _ _ _, .slice Av 0 cv, rfl, _, e1, by rw [HO.out]; exact e2, e3, e4⟩)
    · have HO := Aside0.mk (show (outL σ).1 = (dueL σ).map (fData σ) by unfold outL; dsimp only; rw [if_neg (by rw [← hhl]; exact fun e => hm0 e.1)])
      have hm1 : ((m : Int) == 0) = false := by rw [beq_eq_false_iff_ne]; omega
      clear hio hov hD hK hm hm0 hhl
      gi_wp2
      have HF := Aside0.mk (FinS.of HIO.out HOV.out)
      refine wpIn_wide.2 ?_
      go_region
      all_goals (
        obtain ⟨hkd, hcv, e1, e2, e3, e4⟩ := FinS.done HX.out HF.out HD.out HK.out
        clear p7 p8 z7 z8 o0 x0
        gi_wp2
        refine ⟨by simp, .inl ⟨_, _, rfl, run_takeDeferred hkd, ?_⟩⟩
        exact ⟨_, results_tmp rfl _ _ _, .slice Av m cv, rfl, _, e1, by rw [HO.out]; exact e2, e3, e4⟩)
end Go.Proofs.Ytekakngojhnleaa.Ow
/- LinkScripts: an end of the program and one of the document do the same calls. -/
namespace Go.Proofs.Ytekakngojhnleaa.Xf
open Go.RowKit Go.Maps Go.Proofs.Ytekakngojhnleaa.Mp Go.Proofs.Ytekakngojhnleaa.En Go.Proofs.Ytekakngojhnleaa.De Go.Proofs.Ytekakngojhnleaa.Lp Go.Proofs.Ytekakngojhnleaa.Lm Go.Proofs.Ytekakngojhnleaa.La Go.Proofs.Ytekakngojhnleaa.Lb Go.Proofs.Ytekakngojhnleaa.Lc Go.Proofs.Ytekakngojhnleaa.Ld Go.Proofs.Ytekakngojhnleaa.Le Go.Proofs.Ytekakngojhnleaa.Ow Go.Proofs.Ytekakngojhnleaa.Xa Go.Proofs.Ytekakngojhnleaa.Xb Go.Proofs.Ytekakngojhnleaa.Xc Go.Proofs.Ytekakngojhnleaa.Xd Go.Proofs.Ytekakngojhnleaa.Xe Go.Proofs.Ytekakngojhnleaa.Xs Go.Proofs.YtekakngojhnleaaW.PrintWords Go.Proofs.YtekakngojhnleaaW.PrintLast Go.Proofs.YtekakngojhnleaaW.PrintMore
set_option linter.unusedVariables false
set_option linter.unusedSimpArgs false
variable {w w1 : World} {B N p q : Nat} {σ τ : Lk}

theorem out_len {M : Nat} (hI : Inv M σ) : (outL σ).1.length ≤ 1000 := by
  have h0 := due_len hI (Nat.le_refl (newSent σ))
  rw [← dueL_eq] at h0
  unfold outL
  split
  · simp
  · rw [List.length_map]; omega
theorem due_lt {M : Nat} (hI : Inv M σ) {k : Nat} (h : k ∈ dueL σ) : k < σ.took.length := by
  have hn := newSent_le hI
  have := hI.s1
  unfold dueL at h
  rcases List.mem_append.1 h with h | h
  · split at h
    · have := List.mem_range'_1.1 h; omega
    · cases h
  · have := List.mem_range'_1.1 h; omega
theorem out_bytes {M : Nat} (hI : Inv M σ) (hM : M ≤ 50000) : bytesL (outL σ).1 := by
  have hal := hI.al
  have htk := hI.tk
  unfold outL
  split
  · intro l hl
    rw [List.mem_singleton] at hl
    subst hl
    exact frameL_bytes false 0 σ.all.length [] (by omega) (by omega) (by simp) (fun x h => by cases h)
  · intro l hl
    obtain ⟨k, hk, rfl⟩ := List.mem_map.1 hl
    have hlt := due_lt hI hk
    have hok := hI.ht _ (mem_getD hlt)
    exact frameL_bytes true k σ.all.length _ (by omega) (by omega) hok.1 hok.2
/-- The two ends, in blocks p and q, apart. -/
structure Tw (w : World) (B N p q : Nat) (S S' : Nat → Prop) (σ τ : Lk) : Prop where
  l : LP w B N S p σ
  d : DP w B N S' q τ
  ap : ∀ k, S k → ¬ S' k
section
variable {S S' S1 : Nat → Prop}
theorem LP.lt (h : LP w B N S p σ) : ∀ k, S k → k < w.heap.size := by obtain ⟨b, vq, vi, hq, hi, n, s, f, hx⟩ := h; exact hx.lt
theorem LP.bsz (h : LP w B N S p σ) : B ≤ w.heap.size := by obtain ⟨b, vq, vi, hq, hi, n, s, f, hx⟩ := h; have := hx.ge p hx.sp; have := blk_lt hx.blk; omega
theorem LP.step {w' : World} (h : LP w B N S p σ) (hm : ∀ k, S k → w'.heap[k]? = w.heap[k]?) (hz : w.heap.size ≤ w'.heap.size) (k5 : Keep5 w w') : LP w' B N S p σ := by
  obtain ⟨b, vq, vi, hq, hi, n, s, f, hx⟩ := h
  exact ⟨b, vq, vi, hq, hi, n, s, f, LPx.step hx hm hz k5⟩
theorem Tw.below (T : Tw w B N p q S S' σ τ) (hb : Below w.heap.size w w1) : Tw w1 B N p q S S' σ τ := ⟨LP.below T.l hb, T.d.below hb, T.ap⟩
theorem Tw.mono (T : Tw w B N p q S S' σ τ) {M : Nat} (hm : N ≤ M) : Tw w B M p q S S' σ τ := ⟨LP.monoN T.l hm, T.d.mono hm, T.ap⟩
/-- A call at the program's end. -/
theorem Tw.prog (T : Tw w B N p q S S' σ τ) {σ' : Lk} {N' : Nat} (hl : LP w1 B N' S1 p σ') (hN : N ≤ N') (hf : FrL B S S1 w w1) : Tw w1 B N' p q S1 S' σ' τ := by
  refine ⟨hl, (T.d.mono hN).step (fun k hk => hf.k.2 k (T.d.lt k hk) (fun hs => T.ap k hs hk)) hf.b.size hf.k5, fun k hk hk' => ?_⟩
  rcases hf.s k hk with e | e
  · exact T.ap k e hk'
  · have := T.d.lt k hk'; omega
/-- A call at the document's end. -/
theorem Tw.doc (T : Tw w B N p q S S' σ τ) {τ' : Lk} {N' : Nat} (hd : DP w1 B N' S1 q τ') (hN : N ≤ N') (hf : FrL B S' S1 w w1) : Tw w1 B N' p q S S1 σ τ' := by
  refine ⟨LP.step (LP.monoN T.l hN) (fun k hk => hf.k.2 k (LP.lt T.l k hk) (fun hs => T.ap k hk hs)) hf.b.size hf.k5, hd, fun k hk hk' => ?_⟩
  rcases hf.s k hk' with e | e
  · exact T.ap k hk e
  · have := LP.lt T.l k hk; omega
theorem sureN (h : LP w B N S p σ) (n : Nat) : Calls Try.prog 38 #[.pointer (some ⟨p, 0, none⟩)] (w.drewN n) fun e w' => e = .returned (.int .i64 (σ.sure : Int)) ∧ w' = w.drewN n := sure_calls (LP.below h (pw_below_drewN (Below.refl w.heap.size w) n))
theorem gotN (h : LP w B N S p σ) (n : Nat) : Calls Try.prog 39 #[.pointer (some ⟨p, 0, none⟩)] (w.drewN n) fun e w' => e = .returned (.int .i64 (σ.all.length : Int)) ∧ w' = w.drewN n := got_calls (LP.below h (pw_below_drewN (Below.refl w.heap.size w) n))
theorem allC (h : DP w B N S q τ) : w.cell? ⟨q, 2, none⟩ = some (.int .i64 (τ.sure : Int)) ∧ ∃ A c, w.cell? ⟨q, 4, none⟩ = some (.slice A τ.all.length c) := by
  obtain ⟨vt, va, vh, hx⟩ := h
  obtain ⟨ha, hra, hba⟩ := hx.a
  obtain ⟨A, c, rfl⟩ := Kd.R_slice hra
  have hl := hba.1
  rw [hl] at hx
  exact ⟨blk_cell hx.blk 2, A, c, blk_cell hx.blk 4⟩
end
/-- What holds behind i steps. -/
structure Sc (w wr : World) (i p q : Nat) (σ : Lk) : Prop where
  tw : ∃ S S', Tw wr w.heap.size (2 * i) p q S S' σ σ
  inv : Inv i σ
  bl : Below w.heap.size w wr
theorem Sc.fin {wr u : World} {i : Nat} {σ' : Lk} (hb : Below w.heap.size w wr) {S S' : Nat → Prop} (T : Tw u w.heap.size (2 * (i + 1)) p q S S' σ' σ') (hI : Inv (i + 1) σ') (hu : Below w.heap.size wr u) : Sc w u (i + 1) p q σ' := ⟨⟨S, S', T⟩, hI, hb.trans hu⟩
theorem Sc.below {wr u : World} {i : Nat} (h : Sc w wr i p q σ) (hb : Below wr.heap.size wr u) : Sc w u i p q σ := by
  obtain ⟨⟨S, S', T⟩, h2, h3⟩ := h
  exact ⟨⟨S, S', T.below hb⟩, h2, h3.trans (hb.mono h3.size)⟩
theorem smeas {i : Nat} (h : i < 200) : 200 - (intOf (.int .i64 ((i : Int) + 1))).toNat < 200 - (intOf (.int .i64 (i : Int))).toNat := by
  simp only [intOf]
  omega
theorem at_S {w : World} {A : Option Addr} {n : Nat} {xs : List St} (h : Kd.C kSt w A n xs) (i : Int) (h0 : 0 ≤ i) (h1 : i < n) : ∃ ad A1 c1, A = some ad ∧ w.cell? (ad.add (i.toNat * 4)) = some (.int .i64 (rdS xs i).1) ∧ w.cell? ⟨(ad.add (i.toNat * 4)).block, (ad.add (i.toNat * 4)).off + 1, none⟩ = some (.int .i64 (rdS xs i).2.1) ∧
    w.cell? ⟨(ad.add (i.toNat * 4)).block, (ad.add (i.toNat * 4)).off + 2, none⟩ = some (.int .i64 (rdS xs i).2.2.1) ∧ w.cell? ⟨(ad.add (i.toNat * 4)).block, (ad.add (i.toNat * 4)).off + 3, none⟩ = some (.slice A1 (rdS xs i).2.2.2.length c1) ∧ (Kd.int .u8).C w A1 (rdS xs i).2.2.2.length (rdS xs i).2.2.2 ∧ (rdS xs i).2.2.2.length ≤ c1 := by
  obtain ⟨ad, c, e, _, hK, hc0⟩ := Kd.C_get h zSt i h0 h1
  have hc : ∀ j u, c[j]? = some u → w.cell? (ad.add (i.toNat * 4 + j)) = some u := hc0
  obtain ⟨A1, c1, rfl, l, g⟩ := kSt_open hK
  exact ⟨ad, A1, c1, e, hc 0 _ rfl, by rw [← add_field _ _ 1 (by omega)]; exact hc 1 _ rfl, by rw [← add_field _ _ 2 (by omega)]; exact hc 2 _ rfl, by rw [← add_field _ _ 3 (by omega)]; exact hc 3 _ rfl, g, l⟩
set_option maxRecDepth 100000 in
theorem scripts_no (n : Int) (A : Option Addr) (c k : Nat) (w : World) (hn : n < 1 ∨ 16 < n) :
    Calls Try.prog 11 #[.int .i64 n, .slice A k c] w fun e w' => e = .returned (.bool true) ∧ Below w.heap.size w w' := by
  have HF := Aside0.mk (new_no n hn)
  have HG := Aside0.mk (rnew_no n hn)
  clear hn
  go_enter Try.func11, Try.ntmps11
  go_wp2_with fail
  refine (HF.out _).mono ?_
  rintro e w1 ⟨rfl, rfl⟩
  go_wp2_with fail
  refine (HG.out _).mono ?_
  rintro e w2 ⟨rfl, rfl⟩
  go_wp2_with fail
  go_ret
  exact ⟨rfl, Below.refl _ _⟩
/-- A fresh pair. -/
theorem fresh_tw {n : Nat} (h0 : 1 ≤ n) (h1 : n ≤ 16) {w1 w2 : World} {S S' : Nat → Prop} (hl : LP w1 w.heap.size 0 S p (newL n)) (hb1 : Below w.heap.size w w1) (hd : DP w2 w.heap.size 0 S' q (newL n)) (hb2 : Below w1.heap.size w1 w2) (hS : ∀ k, S' k → w1.heap.size ≤ k) : Sc w w2 0 p q (newL n) :=
  ⟨⟨S, S', LP.below hl hb2, hd, fun k hk hk' => by have := LP.lt hl k hk; have := hS k hk'; omega⟩, newInv h0 h1, hb1.trans (hb2.mono hb1.size)⟩
set_option maxRecDepth 100000 in
set_option maxHeartbeats 2000000 in
theorem scripts_nil (m : Nat) (h0 : 1 ≤ m) (h1 : m ≤ 16) (A : Option Addr) (c : Nat) (w : World) :
    Calls Try.prog 11 #[.int .i64 (m : Int), .slice A 0 c] w fun e w' => e = .returned (.bool true) ∧ Below w.heap.size w w' := by
  have HF := Aside0.mk (new_yes m h0 h1)
  have HG := Aside0.mk (rnew_yes m h0 h1)
  clear h0 h1
  go_enter Try.func11, Try.ntmps11
  go_wp2_with fail
  refine (HF.out _).mono ?_
  rintro e w1 ⟨rfl, _, hb1⟩
  go_wp2_with fail
  refine (HG.out _).mono ?_
  rintro e w2 ⟨rfl, _, hb2⟩
  have H0 := Aside0.mk (hb1.trans (hb2.mono hb1.size))
  clear hb1 hb2 HF HG
  go_wp2_with fail
  go_loopw [9] (fun v9 wr => v9 = .int .i64 0 ∧ Aside0 (Below w.heap.size w wr)) (fun v9 _ => 1 - (intOf v9).toNat)
  case atStart => exact ⟨rfl, H0⟩
  case round =>
    obtain ⟨rfl, HO⟩ := hrel
    clear H0
    go_wp2_with fail
    go_ret
    exact ⟨rfl, HO.out⟩
set_option maxRecDepth 100000 in
set_option maxHeartbeats 4000000 in
theorem scripts_some (m : Nat) (h0 : 1 ≤ m) (h1 : m ≤ 16) (ad : Addr) (c : Nat) (xs : List St) (w : World) (hr : Kd.C kSt w (some ad) xs.length xs) (hl : xs.length ≤ 140737488351232) (hg : ∀ x ∈ xs, GoodS x) :
    Calls Try.prog 11 #[.int .i64 (m : Int), .slice (some ad) xs.length c] w fun e w' => e = .returned (.bool true) ∧ Below w.heap.size w w' := by
  have HR := Aside0.mk hr
  have HG := Aside0.mk hg
  have HF := Aside0.mk (new_yes m h0 h1)
  have HF2 := Aside0.mk (rnew_yes m h0 h1)
  have HM := Aside0.mk (And.intro h0 h1)
  clear hr hg h0 h1
  go_enter Try.func11, Try.ntmps11
  go_wp2_with fail
  refine (HF.out _).mono ?_
  rintro e w1 ⟨rfl, hl1, hb1⟩
  have HL1 := Aside0.mk (hl1 w.heap.size (Nat.le_refl _))
  have HB1 := Aside0.mk hb1
  clear hl1 hb1
  go_wp2_with fail
  refine (HF2.out _).mono ?_
  rintro e w2 ⟨rfl, hd2, hb2⟩
  have H0 := Aside0.mk (fresh_tw HM.out.1 HM.out.2 HL1.out HB1.out (hd2 w.heap.size HB1.out.size) hb2 (fun k hk => Nat.le_of_eq hk.symm))
  clear hd2 hb2 HL1 HB1 HF HF2
  obtain ⟨p, hp⟩ : ∃ p, p = w.heap.size + 1 := ⟨_, rfl⟩
  obtain ⟨q, hq⟩ : ∃ q, q = w1.heap.size := ⟨_, rfl⟩
  rw [← hp, ← hq] at H0 ⊢
  clear hp hq
  go_wp2_with fail
  go_loopw [9, 10, 11, 12, 13, 14, 15, 16, 17, 18, 19, 20, 21] (fun v9 v10 v11 v12 v13 v14 v15 v16 v17 v18 v19 v20 v21 wr => ∃ (i : Nat) (σ : Lk), v9 = .int .i64 (i : Int) ∧ i ≤ 200 ∧ Aside0 (Sc w wr i p q σ)) (fun v9 v10 v11 v12 v13 v14 v15 v16 v17 v18 v19 v20 v21 _ => 200 - (intOf v9).toNat)
  case atStart => exact ⟨0, _, rfl, by omega, H0⟩
  case round =>
    obtain ⟨i, σ, rfl, hi, HO⟩ := hrel
    clear H0
    by_cases hc1 : i < xs.length
    · have hd1 : decide ((i : Int) < (xs.length : Int)) = true := decide_eq_true (by omega)
      have hd4 : decide (i < xs.length) = true := decide_eq_true hc1
      by_cases hc2 : i < 200
      · have hd2 : decide ((i : Int) < 200) = true := decide_eq_true (by omega)
        have hx := HG.out _ (rdS_mem xs i hc1)
        obtain ⟨_, A1, c1, hA, q0, q1, q2, q3, hbd, hcap⟩ := at_S HR.out (i : Int) (by omega) (by omega)
        cases hA
        rw [Int.toNat_natCast] at q0 q1 q2 q3
        have r0 := pw_cell_below HO.out.bl q0
        have r1 := pw_cell_below HO.out.bl q1
        have r2 := pw_cell_below HO.out.bl q2
        have r3 := pw_cell_below HO.out.bl q3
        obtain ⟨x, hxx⟩ : ∃ x, x = rdS xs (i : Int) := ⟨_, rfl⟩
        rw [← hxx] at r0 r1 r2 r3 hx hbd hcap
        obtain ⟨l, hll⟩ : ∃ l, l = x.2.2.2 := ⟨_, rfl⟩
        have hx' : l.length ≤ 140737488351232 ∧ ∀ y ∈ l, 0 ≤ y ∧ y < 256 := by rw [hll]; exact hx
        rw [← hll] at r3 hbd hcap
        obtain ⟨d, hdd⟩ : ∃ d, d = x.1 := ⟨_, rfl⟩
        obtain ⟨b, hbb⟩ : ∃ b, b = x.2.1 := ⟨_, rfl⟩
        obtain ⟨n, hnn⟩ : ∃ n, n = x.2.2.1 := ⟨_, rfl⟩
        rw [← hdd] at r0
        rw [← hbb] at r1
        rw [← hnn] at r2
        have HBY := Aside0.mk hbd
        have HX := Aside0.mk (And.intro hx' hcap)
        have hil : (i : Int) < (xs.length : Int) := by omega
        have HC2 := Aside0.mk hc2
        have hwi : wrap64 ((i : Int) + 1) = (i : Int) + 1 := by unfold wrap64; omega
        have hd3 : decide (i < 200) = true := decide_eq_true hc2
        obtain ⟨⟨S, S', T⟩, hI, hbl⟩ := HO.out
        have HNS := Aside0.mk (show ¬ S wr.heap.size ∧ ¬ S' wr.heap.size from ⟨fun e => by have := LP.lt T.l _ e; omega, fun e => by have := T.d.lt _ e; omega⟩)
        have T0 := Aside0.mk (T.below (below_alloc (Below.refl wr.heap.size wr) (.cells #[.int .i64 d, .int .i64 b, .int .i64 n, .slice A1 l.length c1] 62)))
        have HU0 := Aside0.mk ((below_alloc (Below.refl wr.heap.size wr) (.cells #[.int .i64 d, .int .i64 b, .int .i64 n, .slice A1 l.length c1] 62)).mono hbl.size)
        have hbk := blk_new wr (.cells #[.int .i64 d, .int .i64 b, .int .i64 n, .slice A1 l.length c1] 62)
        have x0 : (wr.alloc (.cells #[.int .i64 d, .int .i64 b, .int .i64 n, .slice A1 l.length c1] 62)).cell? ⟨wr.heap.size, 0, none⟩ = some (.int .i64 d) := blk_cell hbk 0
        have x3 : (wr.alloc (.cells #[.int .i64 d, .int .i64 b, .int .i64 n, .slice A1 l.length c1] 62)).cell? ⟨wr.heap.size, 3, none⟩ = some (.slice A1 l.length c1) := blk_cell hbk 3
        have HBK := Aside0.mk hbk
        have HI := Aside0.mk hI
        have HBL := Aside0.mk hbl
        obtain ⟨g0, hg0⟩ : ∃ g0, g0 = wr.heap.size := ⟨_, rfl⟩
        clear q0 q1 q2 q3 hbd hx hx' hcap hxx hll hdd hbb hnn hc1 hc2 T hI hbl hbk
        go_upto_region 11 with fail
        clear r0 r1 r2 r3
        rw [← hg0] at HNS x0 x3 HBK ⊢
        clear hg0
        generalize wr.alloc (.cells #[.int .i64 d, .int .i64 b, .int .i64 n, .slice A1 l.length c1] 62) = u at T0 HU0 x0 x3 HBK ⊢
        by_cases e0 : d = 0
        · subst e0
          go_wp2_with fail
          clear x0 x3
          refine (send_calls T0.out.l HI.out (by have := HC2.out; omega) A1 c1 l (Kd.C_below HBY.out (HBL.out.trans HU0.out)) HX.out.1.1).mono ?_
          rintro e w1 ⟨S1, rfl, hl1, hf1⟩
          have T1 := Aside0.mk (T0.out.prog hl1 (Nat.le_refl _) hf1)
          have x3 : w1.cell? ⟨g0, 3, none⟩ = some (.slice A1 l.length c1) := blk_cell ((hf1.k.2 g0 (blk_lt HBK.out) HNS.out.1).trans HBK.out) 3
          have HU1 := Aside0.mk (HU0.out.trans hf1.b)
          clear hl1 hf1
          go_wp2_with fail
          refine (rsend_calls T1.out.d HI.out (by have := HC2.out; omega) A1 c1 l (Kd.C_below HBY.out (HBL.out.trans HU1.out)) HX.out.1.1).mono ?_
          rintro e w2 ⟨S2, rfl, hd2, hf2⟩
          have T9 := Aside0.mk ((T1.out.doc hd2 (Nat.le_refl _) hf2).mono (show 2 * i ≤ 2 * (i + 1) by omega))
          have HU9 := Aside0.mk (HU1.out.trans hf2.b)
          have HI9 := Aside0.mk (HI.out.send l HX.out.1.2)
          clear hd2 hf2 T1 HU1 x3
          obtain ⟨r, hr⟩ : ∃ r, r = (sendL σ l).1 := ⟨_, rfl⟩
          rw [← hr]
          obtain ⟨σ9, hσ9⟩ : ∃ σ9, σ9 = (sendL σ l).2 := ⟨_, rfl⟩
          rw [← hσ9] at T9 HI9
          clear hr hσ9
          have hrr : (r != r) = false := bne_self_eq_false _
          have HSN := Aside0.mk (sureN T9.out.l)
          have HGN := Aside0.mk (gotN T9.out.l)
          obtain ⟨r2, A9, c9, r4⟩ := allC T9.out.d
          have HSC := Aside0.mk (Sc.fin HBL.out T9.out HI9.out HU9.out)
          clear T9 HI9 HU9
          obtain ⟨sn, hsn⟩ : ∃ sn, sn = σ9.sure := ⟨_, rfl⟩
          obtain ⟨an, han⟩ : ∃ an, an = σ9.all.length := ⟨_, rfl⟩
          rw [← hsn] at r2 HSN
          rw [← han] at r4 HGN
          clear hsn han
          have hb1 : ((sn : Int) != (sn : Int)) = false := bne_self_eq_false _
          have hb2 : ((an : Int) != (an : Int)) = false := bne_self_eq_false _
          go_wp2_with fail
          go_quiet ((first | exact Calls.quiet_of_same (HSN.out _) | exact Calls.quiet_of_same (HGN.out _)))
          go_wp2_with fail
          go_roundw
          case rel => exact ⟨i + 1, σ9, by go_num, HC2.out, ⟨HSC.out.below (pw_below_drewN (Below.refl _ _) _)⟩⟩
          case measure => exact smeas HC2.out
        by_cases e1 : d = 1
        · subst e1
          go_wp2_with fail
          clear x0 x3
          refine (tick_calls T0.out.l).mono ?_
          rintro e w1 ⟨rfl, hl1, hf1⟩
          have T1 := Aside0.mk (T0.out.prog hl1 (Nat.le_refl _) hf1)
          have HU1 := Aside0.mk (HU0.out.trans hf1.b)
          clear hl1 hf1
          go_wp2_with fail
          refine (rtick_calls T1.out.d).mono ?_
          rintro e w2 ⟨rfl, hd2, hf2⟩
          have T9 := Aside0.mk ((T1.out.doc hd2 (Nat.le_refl _) hf2).mono (show 2 * i ≤ 2 * (i + 1) by omega))
          have HU9 := Aside0.mk (HU1.out.trans hf2.b)
          have HI9 := Aside0.mk (HI.out.ticks.mono (Nat.le_succ i))
          clear hd2 hf2 T1 HU1
          obtain ⟨σ9, hσ9⟩ : ∃ σ9, σ9 = tickL σ := ⟨_, rfl⟩
          rw [← hσ9] at T9 HI9
          clear hσ9
          have HSN := Aside0.mk (sureN T9.out.l)
          have HGN := Aside0.mk (gotN T9.out.l)
          obtain ⟨r2, A9, c9, r4⟩ := allC T9.out.d
          have HSC := Aside0.mk (Sc.fin HBL.out T9.out HI9.out HU9.out)
          clear T9 HI9 HU9
          obtain ⟨sn, hsn⟩ : ∃ sn, sn = σ9.sure := ⟨_, rfl⟩
          obtain ⟨an, han⟩ : ∃ an, an = σ9.all.length := ⟨_, rfl⟩
          rw [← hsn] at r2 HSN
          rw [← han] at r4 HGN
          clear hsn han
          have hb1 : ((sn : Int) != (sn : Int)) = false := bne_self_eq_false _
          have hb2 : ((an : Int) != (an : Int)) = false := bne_self_eq_false _
          go_wp2_with fail
          go_quiet ((first | exact Calls.quiet_of_same (HSN.out _) | exact Calls.quiet_of_same (HGN.out _)))
          go_wp2_with fail
          go_roundw
          case rel => exact ⟨i + 1, σ9, by go_num, HC2.out, ⟨HSC.out.below (pw_below_drewN (Below.refl _ _) _)⟩⟩
          case measure => exact smeas HC2.out
        by_cases e2 : d = 2
        · subst e2
          go_wp2_with fail
          clear x0 x3
          refine (out_calls T0.out.l HI.out (by have := HC2.out; omega)).mono ?_
          rintro e w1 ⟨v1, rfl, hs1, hq1, hb1, hl1, hf1⟩
          have T1 := Aside0.mk (T0.out.prog hl1 (Nat.le_refl _) hf1)
          have HU1 := Aside0.mk (HU0.out.trans hf1.b)
          have HQ1 := Aside0.mk hq1
          have HB1 := Aside0.mk hb1
          have HZ1 := Aside0.mk hf1.b.size
          clear hl1 hf1 hq1 hb1
          go_wp2_with fail
          refine (rout_calls T1.out.d HI.out (by have := HC2.out; omega)).mono ?_
          rintro e w2 ⟨v2, rfl, ⟨hs2, hq2, hb2⟩, hd2, hf2⟩
          have T2 := Aside0.mk (T1.out.doc hd2 (Nat.le_refl _) hf2)
          have HU2 := Aside0.mk (HU1.out.trans hf2.b)
          have hq3 : kH.Q 30 w2 u.heap.size (fun k => some k = v1.ownBlock) v1 hs1 := Kd.Q_step HQ1.out (fun k hk hlt => hf2.k.2 k hlt (fun hs => by have := T0.out.d.lt k hs; have := Kd.Q_base HQ1.out k hk.symm; omega))
          have HBA := Aside0.mk (HB1.out.keep hf2.k5)
          have HBB := Aside0.mk (show Bods w2 u.heap.size hs2 (outL σ).1 from ⟨hb2.1, fun i x m h1 h2 => Kd.R_lower (hb2.2 i x m h1 h2) HZ1.out⟩)
          obtain ⟨A5, c5, rfl, _⟩ := Kd.Q_slice HQ1.out
          obtain ⟨A6, c6, rfl⟩ := Kd.R_slice hq2
          have HCA := Aside0.mk (Kd.Q_reads' hq3).2.2
          have HCB := Aside0.mk (Kd.R_reads' hq2).2.2
          have HXB := Aside0.mk (out_bytes HI.out (by have := HC2.out; omega))
          have HLE := Aside0.mk (show hs1.length ≤ 1000000 by have := HB1.out.1; have := out_len HI.out; omega)
          clear hq2 hb2 hd2 hf2 hq3 T1 HU1 HQ1 HB1 HZ1
          go_wp2_with fail
          refine (same_calls HCA.out HCB.out HBA.out HBB.out HXB.out HXB.out HLE.out).mono ?_
          rintro e w3 ⟨rfl, hb3⟩
          have T9 := Aside0.mk ((T2.out.below hb3).mono (show 2 * i ≤ 2 * (i + 1) by omega))
          have HU9 := Aside0.mk (HU2.out.trans (hb3.mono (HBL.out.trans HU2.out).size))
          have HI9 := Aside0.mk (HI.out.out.mono (Nat.le_succ i))
          rw [show decide ((outL σ).1 = (outL σ).1) = true from decide_eq_true rfl]
          clear hb3 T2 HU2 HBA HBB HCA HCB HXB HLE
          obtain ⟨σ9, hσ9⟩ : ∃ σ9, σ9 = (outL σ).2 := ⟨_, rfl⟩
          rw [← hσ9] at T9 HI9
          clear hσ9
          have HSN := Aside0.mk (sureN T9.out.l)
          have HGN := Aside0.mk (gotN T9.out.l)
          obtain ⟨r2, A9, c9, r4⟩ := allC T9.out.d
          have HSC := Aside0.mk (Sc.fin HBL.out T9.out HI9.out HU9.out)
          clear T9 HI9 HU9
          obtain ⟨sn, hsn⟩ : ∃ sn, sn = σ9.sure := ⟨_, rfl⟩
          obtain ⟨an, han⟩ : ∃ an, an = σ9.all.length := ⟨_, rfl⟩
          rw [← hsn] at r2 HSN
          rw [← han] at r4 HGN
          clear hsn han
          have hb1 : ((sn : Int) != (sn : Int)) = false := bne_self_eq_false _
          have hb2 : ((an : Int) != (an : Int)) = false := bne_self_eq_false _
          go_wp2_with fail
          go_quiet ((first | exact Calls.quiet_of_same (HSN.out _) | exact Calls.quiet_of_same (HGN.out _)))
          go_wp2_with fail
          go_roundw
          case rel => exact ⟨i + 1, σ9, by go_num, HC2.out, ⟨HSC.out.below (pw_below_drewN (Below.refl _ _) _)⟩⟩
          case measure => exact smeas HC2.out
        by_cases e3 : d = 3
        · subst e3
          go_wp2_with fail
          clear x0 x3
          refine (in_calls T0.out.l HI.out (by have := HC2.out; omega) (by have := HC2.out; unfold maxLen; omega) A1 c1 l (Kd.C_below HBY.out (HBL.out.trans HU0.out)) HX.out.2 HX.out.1.1 HX.out.1.2).mono ?_
          rintro e w1 ⟨rfl, S1, hl1, hf1⟩
          have T1 := Aside0.mk (T0.out.prog hl1 (Nat.le_succ _) hf1)
          have x3 : w1.cell? ⟨g0, 3, none⟩ = some (.slice A1 l.length c1) := blk_cell ((hf1.k.2 g0 (blk_lt HBK.out) HNS.out.1).trans HBK.out) 3
          have HU1 := Aside0.mk (HU0.out.trans hf1.b)
          clear hl1 hf1
          go_wp2_with fail
          refine (rin_calls T1.out.d HI.out (by have := HC2.out; omega) (by have := HC2.out; omega) A1 c1 l (Kd.C_below HBY.out (HBL.out.trans HU1.out)) HX.out.2 HX.out.1.1 HX.out.1.2).mono ?_
          rintro e w2 ⟨rfl, S2, hd2, hf2⟩
          have T9 := Aside0.mk (show Tw w2 w.heap.size (2 * (i + 1)) p q S1 S2 (inL σ l).2 (inL σ l).2 from T1.out.doc hd2 (Nat.le_succ _) hf2)
          have HU9 := Aside0.mk (HU1.out.trans hf2.b)
          have HI9 := Aside0.mk (HI.out.in_ l HX.out.1.2)
          clear hd2 hf2 T1 HU1 x3
          obtain ⟨r, hr⟩ : ∃ r, r = (inL σ l).1 := ⟨_, rfl⟩
          rw [← hr]
          obtain ⟨σ9, hσ9⟩ : ∃ σ9, σ9 = (inL σ l).2 := ⟨_, rfl⟩
          rw [← hσ9] at T9 HI9
          clear hr hσ9
          have hrr : (r != r) = false := bne_self_eq_false _
          have HSN := Aside0.mk (sureN T9.out.l)
          have HGN := Aside0.mk (gotN T9.out.l)
          obtain ⟨r2, A9, c9, r4⟩ := allC T9.out.d
          have HSC := Aside0.mk (Sc.fin HBL.out T9.out HI9.out HU9.out)
          clear T9 HI9 HU9
          obtain ⟨sn, hsn⟩ : ∃ sn, sn = σ9.sure := ⟨_, rfl⟩
          obtain ⟨an, han⟩ : ∃ an, an = σ9.all.length := ⟨_, rfl⟩
          rw [← hsn] at r2 HSN
          rw [← han] at r4 HGN
          clear hsn han
          have hb1 : ((sn : Int) != (sn : Int)) = false := bne_self_eq_false _
          have hb2 : ((an : Int) != (an : Int)) = false := bne_self_eq_false _
          go_wp2_with fail
          go_quiet ((first | exact Calls.quiet_of_same (HSN.out _) | exact Calls.quiet_of_same (HGN.out _)))
          go_wp2_with fail
          go_roundw
          case rel => exact ⟨i + 1, σ9, by go_num, HC2.out, ⟨HSC.out.below (pw_below_drewN (Below.refl _ _) _)⟩⟩
          case measure => exact smeas HC2.out
        by_cases e4 : d = 4
        · subst e4
          by_cases ht : σ.told < σ.all.length
          · go_wp2_with fail
            clear x0 x3
            have hal := HI.out.al
            have hok := HI.out.ha _ (List.getElem_mem ht)
            refine (next_yes T0.out.l ht).mono ?_
            rintro e w1 ⟨v1, rfl, hv1, hl1, hf1⟩
            have T1 := Aside0.mk (T0.out.prog hl1 (Nat.le_refl _) hf1)
            have HU1 := Aside0.mk (HU0.out.trans hf1.b)
            have HV1 := Aside0.mk hv1
            clear hl1 hf1 hv1
            go_wp2_with fail
            refine (rnext_yes T1.out.d ht (by have := HC2.out; omega) hok).mono ?_
            rintro e w2 ⟨v2, rfl, hv2, hd2, hf2⟩
            have T9 := Aside0.mk ((T1.out.doc hd2 (Nat.le_refl _) hf2).mono (show 2 * i ≤ 2 * (i + 1) by omega))
            have HU9 := Aside0.mk (HU1.out.trans hf2.b)
            have HI9 := Aside0.mk (HI.out.next.mono (Nat.le_succ i))
            have hv3 := HV1.out.keep hf2.k5
            obtain ⟨A5, c5, rfl⟩ := Kd.R_slice hv3
            obtain ⟨A6, c6, rfl⟩ := Kd.R_slice hv2
            obtain ⟨y, hy⟩ : ∃ y, y = σ.all[σ.told] := ⟨_, rfl⟩
            rw [← hy] at hv3 hv2 ⊢
            have cv1 : (convert 30 9 (.slice A5 y.length c5)).run Try.prog w2 = .ok (.string (strOfNums y)) w2 := C_str (Kd.R_reads' hv3).2.2
            have cv2 : (convert 30 9 (.slice A6 y.length c6)).run Try.prog w2 = .ok (.string (strOfNums y)) w2 := C_str (Kd.R_reads' hv2).2.2
            have hse : ((strOfNums y).toList == (strOfNums y).toList) = true := by simp
            clear hd2 hf2 T1 HU1 HV1 hv2 hv3 hal hok ht hy
            obtain ⟨σ9, hσ9⟩ : ∃ σ9, σ9 = (nextL σ).2 := ⟨_, rfl⟩
            rw [← hσ9] at T9 HI9
            clear hσ9
            have HSN := Aside0.mk (sureN T9.out.l)
            have HGN := Aside0.mk (gotN T9.out.l)
            obtain ⟨r2, A9, c9, r4⟩ := allC T9.out.d
            have HSC := Aside0.mk (Sc.fin HBL.out T9.out HI9.out HU9.out)
            clear T9 HI9 HU9
            obtain ⟨sn, hsn⟩ : ∃ sn, sn = σ9.sure := ⟨_, rfl⟩
            obtain ⟨an, han⟩ : ∃ an, an = σ9.all.length := ⟨_, rfl⟩
            rw [← hsn] at r2 HSN
            rw [← han] at r4 HGN
            clear hsn han
            have hb1 : ((sn : Int) != (sn : Int)) = false := bne_self_eq_false _
            have hb2 : ((an : Int) != (an : Int)) = false := bne_self_eq_false _
            go_wp2_with fail
            go_quiet ((first | exact Calls.quiet_of_same (HSN.out _) | exact Calls.quiet_of_same (HGN.out _)))
            go_wp2_with fail
            go_roundw
            case rel => exact ⟨i + 1, σ9, by go_num, HC2.out, ⟨HSC.out.below (pw_below_drewN (Below.refl _ _) _)⟩⟩
            case measure => exact smeas HC2.out
          · go_wp2_with fail
            clear x0 x3
            refine (next_no T0.out.l ht).mono ?_
            rintro e w1 ⟨rfl, hw1⟩
            subst hw1
            go_wp2_with fail
            refine (rnext_no T0.out.d ht).mono ?_
            rintro e w2 ⟨rfl, hd2, hf2⟩
            have T9 := Aside0.mk ((T0.out.doc hd2 (Nat.le_refl _) hf2).mono (show 2 * i ≤ 2 * (i + 1) by omega))
            have HU9 := Aside0.mk (HU0.out.trans hf2.b)
            have HI9 := Aside0.mk (HI.out.mono (Nat.le_succ i))
            have cv1 : (convert 30 9 (.slice none 0 0)).run Try.prog w2 = .ok (.string (strOfNums [])) w2 := C_str (Kd.C_nil _ _)
            have hse : ((strOfNums []).toList == (strOfNums []).toList) = true := by simp
            clear hd2 hf2 ht
            obtain ⟨σ9, hσ9⟩ : ∃ σ9, σ9 = σ := ⟨_, rfl⟩
            rw [← hσ9] at T9 HI9
            clear hσ9
            have HSN := Aside0.mk (sureN T9.out.l)
            have HGN := Aside0.mk (gotN T9.out.l)
            obtain ⟨r2, A9, c9, r4⟩ := allC T9.out.d
            have HSC := Aside0.mk (Sc.fin HBL.out T9.out HI9.out HU9.out)
            clear T9 HI9 HU9
            obtain ⟨sn, hsn⟩ : ∃ sn, sn = σ9.sure := ⟨_, rfl⟩
            obtain ⟨an, han⟩ : ∃ an, an = σ9.all.length := ⟨_, rfl⟩
            rw [← hsn] at r2 HSN
            rw [← han] at r4 HGN
            clear hsn han
            have hb1 : ((sn : Int) != (sn : Int)) = false := bne_self_eq_false _
            have hb2 : ((an : Int) != (an : Int)) = false := bne_self_eq_false _
            go_wp2_with fail
            go_quiet ((first | exact Calls.quiet_of_same (HSN.out _) | exact Calls.quiet_of_same (HGN.out _)))
            go_wp2_with fail
            go_roundw
            case rel => exact ⟨i + 1, σ9, by go_num, HC2.out, ⟨HSC.out.below (pw_below_drewN (Below.refl _ _) _)⟩⟩
            case measure => exact smeas HC2.out
        · have f0 : (d == 0) = false := beq_eq_false_iff_ne.2 e0
          have f1 : (d == 1) = false := beq_eq_false_iff_ne.2 e1
          have f2 : (d == 2) = false := beq_eq_false_iff_ne.2 e2
          have f3 : (d == 3) = false := beq_eq_false_iff_ne.2 e3
          have f4 : (d == 4) = false := beq_eq_false_iff_ne.2 e4
          clear e0 e1 e2 e3 e4
          have T9 := Aside0.mk (T0.out.mono (show 2 * i ≤ 2 * (i + 1) by omega))
          have HU9 := HU0
          have HI9 := Aside0.mk (HI.out.mono (Nat.le_succ i))
          obtain ⟨σ9, hσ9⟩ : ∃ σ9, σ9 = σ := ⟨_, rfl⟩
          rw [← hσ9] at T9 HI9
          clear hσ9
          have HSN := Aside0.mk (sureN T9.out.l)
          have HGN := Aside0.mk (gotN T9.out.l)
          obtain ⟨r2, A9, c9, r4⟩ := allC T9.out.d
          have HSC := Aside0.mk (Sc.fin HBL.out T9.out HI9.out HU9.out)
          clear T9 HI9 HU9
          obtain ⟨sn, hsn⟩ : ∃ sn, sn = σ9.sure := ⟨_, rfl⟩
          obtain ⟨an, han⟩ : ∃ an, an = σ9.all.length := ⟨_, rfl⟩
          rw [← hsn] at r2 HSN
          rw [← han] at r4 HGN
          clear hsn han
          have hb1 : ((sn : Int) != (sn : Int)) = false := bne_self_eq_false _
          have hb2 : ((an : Int) != (an : Int)) = false := bne_self_eq_false _
          go_wp2_with fail
          go_quiet ((first | exact Calls.quiet_of_same (HSN.out _) | exact Calls.quiet_of_same (HGN.out _)))
          go_wp2_with fail
          go_roundw
          case rel => exact ⟨i + 1, σ9, by go_num, HC2.out, ⟨HSC.out.below (pw_below_drewN (Below.refl _ _) _)⟩⟩
          case measure => exact smeas HC2.out
      · have hd2 : decide ((i : Int) < 200) = false := decide_eq_false (by omega)
        have hd3 : decide (i < 200) = false := decide_eq_false hc2
        clear hc1 hc2
        go_wp2_with fail
        go_ret
        exact ⟨rfl, HO.out.bl⟩
    · have hd1 : decide ((i : Int) < (xs.length : Int)) = false := decide_eq_false (by omega)
      have hd4 : decide (i < xs.length) = false := decide_eq_false hc1
      clear hc1
      go_wp2_with fail
      go_ret
      exact ⟨rfl, HO.out.bl⟩
theorem scripts_calls (n : Int) (A : Option Addr) (c : Nat) (xs : List St) (w : World) (hr : Kd.C kSt w A xs.length xs) (hl : xs.length ≤ 140737488351232) (hg : ∀ x ∈ xs, GoodS x) :
    Calls Try.prog 11 #[.int .i64 n, .slice A xs.length c] w fun e w' => e = .returned (.bool true) ∧ Below w.heap.size w w' := by
  by_cases hn : n < 1 ∨ 16 < n
  · exact scripts_no n A c _ w hn
  · obtain ⟨m, rfl⟩ : ∃ m : Nat, n = (m : Int) := ⟨n.toNat, by omega⟩
    rcases Nat.eq_zero_or_pos xs.length with h | h
    · rw [h]; exact scripts_nil m (by omega) (by omega) A c w
    · obtain ⟨ad, rfl, _⟩ := hr.2.2 h
      exact scripts_some m (by omega) (by omega) ad c xs w hr hl hg
theorem scripts_row (n : Int) (x : List St × Option Addr × Nat) (W : World) (hn : (Lit.int .i64 n).wf = true) (hx : IsSteps W x.2.1 x.2.2 x.1) :
    Calls Try.prog 11 #[.int .i64 n, .slice x.2.1 x.1.length x.2.2] W fun e w' => e = .returned (.bool true) ∧ Below W.heap.size W w' :=
  scripts_calls _ _ _ _ W hx.reads hx.len hx.good
end Go.Proofs.Ytekakngojhnleaa.Xf
