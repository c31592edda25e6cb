/- Parts of the proof of LinkScripts, merged: each is proved for all its inputs. -/
import Derived.Test.YtekakngojhnleaaMgLinkScriptsg
import Derived.Test.YtekakngojhnleaaMgLinkScriptsf
import Derived.Test.YtekakngojhnleaaMgLinkScriptse
import Derived.WideShapes
import Derived.Test.YtekakngojhnleaaMgLinkScriptsh
import Derived.RangeFuncNested
import Derived.RangeFuncBound
import Derived.RangeFuncCalls
import Derived.RangeFuncLeaves
import Derived.RangeFuncBox
import Derived.Shelf.Abstract
import Derived.Shelf.RegionOpen
import Derived.OwnWalkIn
import Derived.TacticsInMore
import Derived.LoopNIn
import Derived.LoopIn
import Derived.BigRegionIn
/- Links: sameAll of the laws; a step of a script, how steps are opened as an argument. -/
namespace Go.Proofs.Ytekakngojhnleaa.Xs
open Go.ChangeShapes Go.WideShapes Go.RowKit Go.Maps Go.Proofs.Ytekakngojhnleaa Go.Proofs.Ytekakngojhnleaa.De Go.Proofs.Ytekakngojhnleaa.Lp Go.Proofs.Ytekakngojhnleaa.Lm Go.Proofs.Ytekakngojhnleaa.La Go.Proofs.Ytekakngojhnleaa.Lb Go.Proofs.YtekakngojhnleaaW.PrintWords Go.Proofs.YtekakngojhnleaaW.PrintLast Go.Proofs.YtekakngojhnleaaW.PrintMore
set_option linter.unusedVariables false
set_option linter.unusedSimpArgs false
variable {w w' : World} {B N g : Nat}

def bytesL (a : List (List Int)) : Prop := ∀ l ∈ a, ∀ x ∈ l, 0 ≤ x ∧ x < 256
theorem str_eq {a b : List Int} (ha : ∀ x ∈ a, 0 ≤ x ∧ x < 256) (hb : ∀ x ∈ b, 0 ≤ x ∧ x < 256) : ((strOfNums a).toList == (strOfNums b).toList) = decide (a = b) := by
  by_cases e : a = b
  · rw [e, decide_eq_true rfl]; simp
  · rw [decide_eq_false e, beq_eq_false_iff_ne]
    exact fun e2 => e (strOfNums_inj ha hb e2)
theorem meas4 {i n : Nat} (h : i < n) : n - (intOf (.int .i64 ((i : Int) + 1))).toNat < n - (intOf (.int .i64 (i : Int))).toNat := by
  simp only [intOf]
  omega
theorem take_next {a b : List (List Int)} {i : Nat} (h : a.take i = b.take i) (h1 : i < a.length) (h2 : i < b.length) (e : a[i] = b[i]) : a.take (i + 1) = b.take (i + 1) := by
  rw [List.take_add_one, List.take_add_one, h, List.getElem?_eq_getElem h1, List.getElem?_eq_getElem h2, e]
set_option maxRecDepth 100000 in
set_option maxHeartbeats 1000000 in
theorem same_calls {A0 A1 : Option Addr} {c0 c1 : Nat} {h0 h1 : List Hd} {a b : List (List Int)} (ha : kH.C w A0 h0.length h0) (hb : kH.C w A1 h1.length h1) (ba : Bods w B h0 a) (bb : Bods w B h1 b) (xa : bytesL a) (xb : bytesL b) (hn : h0.length ≤ 1000000) :
    Calls Try.prog 35 #[.slice A0 h0.length c0, .slice A1 h1.length c1] w fun e w' => e = .returned (.bool (decide (a = b))) ∧ Below w.heap.size w w' := by
  obtain ⟨R, hR⟩ : ∃ R, R = decide (a = b) := ⟨_, rfl⟩
  rw [← hR]
  have HR := Aside0.mk hR
  have HA := Aside0.mk ha
  have HB := Aside0.mk hb
  have BA := Aside0.mk ba
  have BB := Aside0.mk bb
  have XA := Aside0.mk xa
  have XB := Aside0.mk xb
  clear hR
  by_cases hl : h0.length = h1.length
  · have hlb : ((h0.length : Int) != (h1.length : Int)) = false := by rw [bne_eq_false_iff_eq, hl]
    obtain ⟨n, hn0⟩ : ∃ n, n = h0.length := ⟨_, rfl⟩
    have HN := Aside0.mk (show n = h0.length ∧ n = h1.length ∧ n = a.length ∧ n = b.length by have := ba.1; have := bb.1; omega)
    rw [← hl, ← hn0]
    rw [← hl, ← hn0] at hlb
    have hn2 : n ≤ 1000000 := by omega
    clear ha hb ba bb xa xb hl hn hn0
    by_cases hz : n = 0
    · have HZ := Aside0.mk (show R = true by
        rw [HR.out]
        exact decide_eq_true (by rw [List.eq_nil_of_length_eq_zero (by have := HN.out; omega : a.length = 0), List.eq_nil_of_length_eq_zero (by have := HN.out; omega : b.length = 0)]))
      subst hz
      go_enter Try.func35, Try.ntmps35
      go_wp2_with fail
      clear hlb
      go_loopw [5] (fun v5 wr => v5 = .int .i64 0 ∧ Aside0 (Below w.heap.size w wr)) (fun v5 _ => 1 - (intOf v5).toNat)
      case atStart => exact ⟨rfl, ⟨Below.refl _ _⟩⟩
      case round =>
        obtain ⟨rfl, HW⟩ := hrel
        go_wp2_with fail
        go_ret
        rw [HZ.out]
        exact ⟨rfl, HW.out⟩
    obtain ⟨ad0, rfl, _⟩ := at_H HA.out 0 (by omega) (by have := HN.out; omega)
    obtain ⟨ad1, rfl, _⟩ := at_H HB.out 0 (by omega) (by have := HN.out; omega)
    clear hz
    go_enter Try.func35, Try.ntmps35
    go_wp2_with fail
    clear hlb
    go_loopw [5] (fun v5 wr => ∃ i : Nat, v5 = .int .i64 (i : Int) ∧ i ≤ n ∧ Aside0 (a.take i = b.take i) ∧ Aside0 (Below w.heap.size w wr)) (fun v5 _ => n - (intOf v5).toNat)
    case atStart => exact ⟨0, rfl, Nat.zero_le _, ⟨rfl⟩, ⟨Below.refl _ _⟩⟩
    case round =>
      obtain ⟨i, rfl, hi, HT, HW⟩ := hrel
      by_cases hlt : i < n
      · obtain ⟨ha', hb', hx0, hx1⟩ : i < a.length ∧ i < b.length ∧ i < h0.length ∧ i < h1.length := by have := HN.out; omega
        obtain ⟨_, hA0, q0⟩ := at_H HA.out (i : Int) (by omega) (by omega)
        obtain ⟨_, hA1, q1⟩ := at_H HB.out (i : Int) (by omega) (by omega)
        cases hA0
        cases hA1
        rw [Int.toNat_natCast] at q0 q1
        have d0 := BA.out.2 i _ _ (show h0[i]? = some (rdH h0 (i : Int)) by unfold rdH; rw [Int.toNat_natCast, List.getD_eq_getElem?_getD, List.getElem?_eq_getElem hx0, Option.getD_some]) (List.getElem?_eq_getElem ha')
        have d1 := BB.out.2 i _ _ (show h1[i]? = some (rdH h1 (i : Int)) by unfold rdH; rw [Int.toNat_natCast, List.getD_eq_getElem?_getD, List.getElem?_eq_getElem hx1, Option.getD_some]) (List.getElem?_eq_getElem hb')
        obtain ⟨y0, hy0⟩ : ∃ y, y = rdH h0 (i : Int) := ⟨_, rfl⟩
        obtain ⟨y1, hy1⟩ : ∃ y, y = rdH h1 (i : Int) := ⟨_, rfl⟩
        rw [← hy0] at q0 d0
        rw [← hy1] at q1 d1
        unfold encH at q0 q1
        have r0 : wr.cell? (ad0.add i) = some (.slice y0.a y0.n y0.c) := pw_cell_below HW.out q0
        have r1 : wr.cell? (ad1.add i) = some (.slice y1.a y1.n y1.c) := pw_cell_below HW.out q1
        have cv0 : ∀ m, (convert 30 9 (.slice y0.a y0.n y0.c)).run Try.prog (wr.drewN m) = .ok (.string (strOfNums a[i])) (wr.drewN m) := fun m => C_str (by have e := (Kd.R_reads' d0); rw [e.1]; exact Kd.C_drewN (Kd.C_below e.2.2 HW.out) m)
        have cv1 : ∀ m, (convert 30 9 (.slice y1.a y1.n y1.c)).run Try.prog (wr.drewN m) = .ok (.string (strOfNums b[i])) (wr.drewN m) := fun m => C_str (by have e := (Kd.R_reads' d1); rw [e.1]; exact Kd.C_drewN (Kd.C_below e.2.2 HW.out) m)
        have hse := str_eq (XA.out _ (List.getElem_mem ha')) (XB.out _ (List.getElem_mem hb'))
        obtain ⟨x, hx⟩ : ∃ x, x = a[i] := ⟨_, rfl⟩
        obtain ⟨y, hy⟩ : ∃ y, y = b[i] := ⟨_, rfl⟩
        rw [← hx] at cv0
        rw [← hy] at cv1
        rw [← hx, ← hy] at hse
        have HIB := Aside0.mk (show ∃ h : i < a.length, ∃ h' : i < b.length, x = a[i] ∧ y = b[i] from ⟨ha', hb', hx, hy⟩)
        clear q0 q1 d0 d1 hy0 hy1 hx hy ha' hb' hx0 hx1
        have hwi : wrap64 ((i : Int) + 1) = (i : Int) + 1 := by unfold wrap64; omega
        have hil : (i : Int) < (n : Int) := by omega
        by_cases e : x = y
        · rw [decide_eq_true e] at hse
          have HE := Aside0.mk e
          clear e
          go_wp2_with fail
          go_quiet (fail)
          go_wp2_with fail
          go_roundw
          case rel =>
            obtain ⟨h1, h2, h3, h4⟩ := HIB.out
            exact ⟨i + 1, by go_num, hlt, ⟨take_next HT.out h1 h2 (by rw [← h3, ← h4]; exact HE.out)⟩, ⟨HW.out.trans ((pw_below_drewN (Below.refl _ wr) _).mono HW.out.size)⟩⟩
          case measure => exact meas4 hlt
        · rw [decide_eq_false e] at hse
          have HE := Aside0.mk e
          clear e
          go_wp2_with fail
          go_quiet (fail)
          go_wp2_with fail
          go_ret
          refine ⟨?_, HW.out.trans ((pw_below_drewN (Below.refl _ wr) _).mono HW.out.size)⟩
          have hr : R = false := by
            rw [HR.out]
            refine decide_eq_false (fun e2 => HE.out ?_)
            obtain ⟨h1, h2, h3, h4⟩ := HIB.out
            subst e2
            rw [h3, h4]
          rw [hr]
          rfl
      · have hni : i = n := by omega
        have hil : ¬ (i : Int) < (n : Int) := by omega
        have HI := Aside0.mk hni
        clear hni hlt
        go_wp2_with fail
        go_ret
        refine ⟨?_, HW.out⟩
        have hr : R = true := by
          rw [HR.out]
          refine decide_eq_true ?_
          have e := HT.out
          rw [HI.out, HN.out.2.2.1, List.take_length] at e
          rw [e, ← HN.out.2.2.1, HN.out.2.2.2, List.take_length]
        rw [hr]
        rfl
  · have hlb : ((h0.length : Int) != (h1.length : Int)) = true := by rw [bne_iff_ne]; omega
    have HE := Aside0.mk (show R = false by
      rw [HR.out]
      exact decide_eq_false (fun e => hl (by rw [ba.1, bb.1, e])))
    clear ha hb ba bb xa xb hl hn
    go_enter Try.func35, Try.ntmps35
    go_wp2_with fail
    go_ret
    rw [HE.out]
    exact ⟨rfl, Below.refl _ _⟩
/-- A step, as the law reads it. -/
abbrev St := Int × Int × Int × List Int
def kSt : Kd St := Kd.pair (Kd.int .i64) (Kd.pair (Kd.int .i64) (Kd.pair (Kd.int .i64) (Kd.slice 5 (Kd.int .u8))))
def zSt : St := (0, 0, 0, [])
def rdS (xs : List St) (i : Int) : St := xs.getD i.toNat zSt
theorem kSt_open {w : World} {x : St} {cs : List Value} (h : kSt.K w x cs) : ∃ A c, cs = [.int .i64 x.1, .int .i64 x.2.1, .int .i64 x.2.2.1, .slice A x.2.2.2.length c] ∧ x.2.2.2.length ≤ c ∧ (Kd.int .u8).C w A x.2.2.2.length x.2.2.2 := by
  obtain ⟨_, _, rfl, rfl, ⟨_, _, rfl, rfl, ⟨_, _, rfl, rfl, ⟨A, c, rfl, l, g⟩⟩⟩⟩ := h
  exact ⟨A, c, rfl, l, g⟩
theorem at_St {w : World} {A : Option Addr} {n : Nat} {xs : List St} (h : Kd.C kSt w A n xs) (i : Int) (h0 : 0 ≤ i) (h1 : i < n) : ∃ ad A1 c1, A = some ad ∧ w.cell? (ad.add (i.toNat * 4)) = some (.int .i64 (rdS xs i).1) ∧ w.cell? ⟨(ad.add (i.toNat * 4)).block, (ad.add (i.toNat * 4)).off + 1, none⟩ = some (.int .i64 (rdS xs i).2.1) ∧
    w.cell? ⟨(ad.add (i.toNat * 4)).block, (ad.add (i.toNat * 4)).off + 2, none⟩ = some (.int .i64 (rdS xs i).2.2.1) ∧ w.cell? ⟨(ad.add (i.toNat * 4)).block, (ad.add (i.toNat * 4)).off + 3, none⟩ = some (.slice A1 (rdS xs i).2.2.2.length c1) ∧ (Kd.int .u8).C w A1 (rdS xs i).2.2.2.length (rdS xs i).2.2.2 := by
  obtain ⟨ad, c, e, _, hK, hc0⟩ := Kd.C_get h zSt i h0 h1
  have hc : ∀ j u, c[j]? = some u → w.cell? (ad.add (i.toNat * 4 + j)) = some u := hc0
  obtain ⟨A1, c1, rfl, l, g⟩ := kSt_open hK
  exact ⟨ad, A1, c1, e, hc 0 _ rfl, by rw [← add_field _ _ 1 (by omega)]; exact hc 1 _ rfl, by rw [← add_field _ _ 2 (by omega)]; exact hc 2 _ rfl, by rw [← add_field _ _ 3 (by omega)]; exact hc 3 _ rfl, g⟩
def GoodS (x : St) : Prop := x.2.2.2.length ≤ 140737488351232 ∧ ∀ y ∈ x.2.2.2, 0 ≤ y ∧ y < 256
theorem rdS_mem (xs : List St) (j : Nat) (h : j < xs.length) : rdS xs (j : Int) ∈ xs := by
  simp only [rdS, Int.toNat_natCast, List.getD_eq_getElem?_getD, List.getElem?_eq_getElem h, Option.getD_some]
  exact List.getElem_mem h
def goodT (x : St) : Prop := (Lit.int .i64 x.1).wf = true ∧ (Lit.int .i64 x.2.1).wf = true ∧ (Lit.int .i64 x.2.2.1).wf = true ∧ (x.2.2.2.length * 1 ≤ reachBytes ∧ ∀ y ∈ x.2.2.2, (Lit.int .u8 y).wf = true)
theorem opens_step : Opn.Opens Try.prog 62 kSt goodT :=
  Opn.opens_struct Try.underlying62 (Opn.Flds.more (Opn.opens_int Try.underlying3) rfl (by kernel_rfl) (Opn.Flds.more (Opn.opens_int Try.underlying3) rfl (by kernel_rfl) (Opn.Flds.more (Opn.opens_int Try.underlying3) rfl (by kernel_rfl)
    (Opn.Flds.one (Opn.opens_slice (Opn.opens_int Try.underlying5) Try.underlying30 (by kernel_rfl) 5 (by kernel_rfl)) rfl (by kernel_rfl))))) (by kernel_rfl)
/-- The steps, as they lie. -/
structure IsSteps (W : World) (A : Option Addr) (c : Nat) (xs : List St) : Prop where
  reads : Kd.C kSt W A xs.length xs
  len : xs.length ≤ 140737488351232
  good : ∀ x ∈ xs, GoodS x
set_option maxRecDepth 100000 in
theorem open_steps (j : Nat) {H : Type} {enc : TypeId × Value → H} {W : World} {base r0 : Nat} {r : Reach} {spare : Nat → Bool} {held : Bool} {ts : List TypeId} {ds : List (DataW H)} {dd : DataW H} {p : List MemPlace} (hj : ts[j]? = some 60) (hd : ds[j]? = some dd)
    {v : Value} (hv : Value.okWide Try.prog W r r0 60 v) (h : DataW.Trod enc Try.prog W base spare held 60 v dd p) (hsz : (DataW.weightsEach Try.prog ts ds).all (· ≤ reachBytes) = true) :
    ∃ x : List St × Option Addr × Nat, v = .slice x.2.1 x.1.length x.2.2 ∧ IsSteps W x.2.1 x.2.2 x.1 := by
  obtain ⟨A, len, cap, rfl⟩ := okWide_slice Try.underlying60 hv
  obtain ⟨fuel, hf⟩ := h
  obtain ⟨xs, ⟨A', c', he, hl, hr⟩, h1, h2⟩ := Opn.opens_slice opens_step Try.underlying60 (by kernel_rfl) 62 (B := 48) (by kernel_rfl) hf (fun b hb => by
    have := List.all_eq_true.1 hsz _ (DataW.weights_mem_each hj hd b hb)
    simpa using this)
  simp [Value.cells] at he
  obtain ⟨rfl, rfl, rfl⟩ := he
  refine ⟨(xs, A, cap), rfl, hr, ?_, fun x hx => ?_⟩
  · have h3 : xs.length * 48 ≤ 140737488351232 := h1
    show xs.length ≤ _
    omega
  · have h3 := h2 x hx
    have h4 : x.2.2.2.length * 1 ≤ 140737488351232 := h3.2.2.2.1
    exact ⟨by omega, _root_.Go.Proofs.Ytekakngojhnleaa.Rd.u8_bytes h3.2.2.2.2⟩
end Go.Proofs.Ytekakngojhnleaa.Xs
/- A range over a function whose iterator writes cells between its rounds (link.due counts in the end itself): the statement's law, for a body that never leaves the loop. -/
namespace Go.Proofs.Ytekakngojhnleaa.Rg
open Go.RowKit Go.Shelf
set_option linter.unusedVariables false
variable {n : Nat} {P : Program}

/-- What a round that goes on gives. -/
def roundEnd {α : Type} (B : Nat) (I : α → World → Prop) (s : α) (W : World) : Exit → Act → World → Prop
  | .normal, _, W' => KeepsFrom B W W' ∧ I s W'
  | .ret, _, _ => False
  | .exit _, _, _ => False
  | .goto _, _, _ => False
  | .panic _, _, _ => False
  | .outgrown, _, _ => False
/-- The iterator's part, at a state s0 and at an end s1: J may be turned by the iterator itself, so long as it keeps the caller's I and turns no block of the loop's own. -/
def Iterates {α : Type} (n B : Nat) (P : Program) (gf : Nat) (lb : Array Value) (encs : Int → Array Value) (may : α → Int → Prop) (nx : α → Int → α) (I : α → World → Prop) (s0 s1 : α) (w : World) : Prop :=
  ∀ (l : Nat) (J : α → World → Prop) (W : World), B ≤ W.heap.size → (∀ s A, J s A → I s A) → (∀ s t A C, J s A → I t C → KeepsFrom B A C → J t C) →
    (∀ s x A, J s A → may s x → YieldAt Fence.wide (n - 1) P l (encs x) A fun e A' => e = .returned (.bool true) ∧ J (nx s x) A') → J s0 W →
    CallsIn Fence.wide n P gf (#[.func (.yield l) #[] #[]] ++ lb) W fun e W' => (∃ v, e = .returned v) ∧ J s1 W'
theorem range_of {α : Type} {g : Operand} {ps : Array Tmp} {assign body : Code} {Q : Exit → Act → World → Prop} {a : Act} {w : World}
    (h1 : 1 ≤ n) {gf : Nat} {lb : Array Value} (hg : a.eval g = .func (.func gf) #[] lb) (eg : ∀ args w, (callFunc gf args).run P w = .ok (.enter gf args) w)
    {encs : Int → Array Value} {may : α → Int → Prop} {nx : α → Int → α} (I : α → World → Prop) {s0 s1 : α} (hps : ∀ x, (encs x).size = ps.size)
    (hit : Iterates (n - 1) w.heap.size P gf lb encs may nx I s0 s1 w) (hI : OwnFrom w.heap.size I) (h0 : I s0 w) (a₁ : Int → Act)
    (hassign : ∀ (l : Nat) (x : Int) (W : World) (K : Act → World → Prop), K (a₁ x) W →
      assign.wpIn (Fence.wide.inRound l) (n - 1 - 1) P (Exit.then K (fun _ _ _ => False)) { tmps := (ps.zip (encs x)).foldl (fun t (p, v) => t.setIfInBounds p v) a.tmps, defers := [] } W)
    (hbody : ∀ (l : Nat) (s : α) (x : Int) (W : World), I s W → may s x → body.wpIn (Fence.wide.inRound l) (n - 1 - 1) P (roundEnd w.heap.size I (nx s x) W) (a₁ x) W)
    (hdone : ∀ (D : Nat) (W : World), w.heap.size ≤ D → I s1 W → W.heap[D]? = some (.deferred (some [])) → Q .normal { a with defers := { target := .collected D, args := #[] } :: a.defers } W) :
    (Code.rangeFunc g ps assign body).wpIn Fence.wide n P Q a w := by
  refine wpIn_rangeFunc fun fn hfn => ?_
  -- the loop's record, in whatever state
  obtain ⟨R, hR⟩ : ∃ R : LoopState → Obj, R = fun st => .loop { state := st, pending := none, fn, tmps := a.tmps, params := ps, assign, body, defers := w.heap.size } := ⟨_, rfl⟩
  have hRc : ∀ st, (R st).isCells = false := fun st => by rw [hR]; rfl
  have hsz : ((w.alloc (.deferred (some []))).alloc (R .ready)).heap.size = w.heap.size + 2 := by simp
  have hL : ((w.alloc (.deferred (some []))).alloc (R .ready)).heap[w.heap.size + 1]? = some (R .ready) := by
    have := World.alloc_heap_new (w.alloc (.deferred (some []))) (R .ready)
    rwa [World.size_alloc] at this
  have hD : ((w.alloc (.deferred (some []))).alloc (R .ready)).heap[w.heap.size]? = some (.deferred (some [])) :=
    (Below.heap_alloc _ _ _ (by simp)).trans (World.alloc_heap_new w _)
  have hI0 : I s0 ((w.alloc (.deferred (some []))).alloc (R .ready)) := hI.alloc _ (hI.alloc _ h0)
  have hrun := run_enterLoop_outer (P := P) (w := w) fn a.tmps ps assign body
  rw [show (Obj.loop { state := .ready, pending := none, fn := fn, tmps := a.tmps, params := ps, assign := assign, body := body, defers := w.heap.size }) = R .ready by rw [hR]] at hrun
  generalize (w.alloc (.deferred (some []))).alloc (R .ready) = W0 at hrun hsz hL hD hI0
  refine ⟨w.heap.size + 1, [{ target := .collected w.heap.size, args := #[] }], W0, { target := .fn (.func gf) lb, args := #[.func (.yield (w.heap.size + 1)) #[] #[]] }, W0, gf, #[.func (.yield (w.heap.size + 1)) #[] #[]] ++ lb, W0, hrun, ?_, fun _ _ => trivial, ?_, fun _ => h1, ?_⟩
  · simp only [resolve, hg]
    simp [go_sem]
  · simp [invoke, go_sem, eg]
  -- what holds between two rounds
  refine (hit (w.heap.size + 1) (fun s A => I s A ∧ A.heap[w.heap.size + 1]? = some (R .ready) ∧ A.heap[w.heap.size]? = some (.deferred (some []))) W0 (by omega) (fun s A hA => hA.1)
    (fun s t A C hA hC hk => ⟨hC, hk.same _ _ (by omega) hA.2.1 (hRc _), hk.same _ _ (Nat.le_refl _) hA.2.2 rfl⟩) ?_ ⟨hI0, hL, hD⟩).mono ?_
  · rintro s x A ⟨hi, hl, hd⟩ hmay
    have hl1 := hl
    rw [hR] at hl1
    have hy := run_yield (P := P) (args := encs x) hl1 (hps x)
    refine ⟨fn, _, assign, body, hy, roundIn_of_wpIn hfn (hassign _ x A _ ⟨_, run_beginRound hl1 rfl, ?_⟩)⟩
    have hlt : w.heap.size + 1 < A.heap.size := (Array.getElem?_eq_some_iff.1 hl).1
    have hbusy : (A.putObj (w.heap.size + 1) (R .busy)).heap[w.heap.size + 1]? = some (R .busy) := World.putObj_heap_same hlt
    have hd2 : (A.putObj (w.heap.size + 1) (R .busy)).heap[w.heap.size]? = some (.deferred (some [])) := (World.putObj_heap_other (by omega)).trans hd
    have hi2 : I s (A.putObj (w.heap.size + 1) (R .busy)) := hI.putObj _ hi (by omega) hl (hRc _)
    have hw := hbody (w.heap.size + 1) s x _ hi2 hmay
    rw [hR] at hw hbusy hd2
    refine wpIn_mono hw ?_
    rintro e a3 W3 hp
    cases e with
    | normal =>
      obtain ⟨hk3, hi3⟩ := hp
      have hl3 := hk3.same _ _ (by omega) hbusy rfl
      have hd3 := hk3.same _ _ (Nat.le_refl _) hd2 rfl
      refine ⟨_, _, run_endRound none hl3, rfl, hI.putObj _ hi3 (by omega) hl3 rfl, ?_, (World.putObj_heap_other (by omega)).trans hd3⟩
      rw [World.putObj_heap_same (Array.getElem?_eq_some_iff.1 hl3).1, hR]
      rfl
    | ret => exact hp.elim
    | exit id => exact hp.elim
    | goto t => exact hp.elim
    | panic ch => exact hp.elim
    | outgrown => exact hp.elim
  · rintro e W2 ⟨⟨v, rfl⟩, hi, hl, hd⟩
    have hl1 := hl
    rw [hR] at hl1
    exact ⟨none, _, run_endLoop hl1 (by simp), hdone _ _ (Nat.le_refl _) (hI.putObj _ hi (by omega) hl (hRc _)) ((World.putObj_heap_other (by omega)).trans hd)⟩
/-! ### A region that draws its order, in a round: by the plain walk's steps -/
open Go.Proofs.YtekakngojhnleaaW.PrintWords Go.Proofs.YtekakngojhnleaaW.PrintLast
variable {l : Nat} {ops : Array Oper} {Q : Exit → Act → World → Prop}
theorem rows_round {row : String} {args : Array Value} {w : World} {R : Value → World → Prop} (h : Rows P row args w R) : RowsIn (Fence.wide.inRound l) n P row args w R := fun c cs _ => by
  obtain ⟨v, w', r, s⟩ := h c cs
  exact ⟨v, w', r, stepsIn_wide.2 s⟩
theorem op_round {o : Oper} {a : Act} {w : World} {K : Act → World → Prop} (hd : ∀ c, o.op ≠ .defer c) (h : o.wp P a w K Q) : o.wpIn (Fence.wide.inRound l) n P a w K Q := by
  refine ⟨fun _ _ => trivial, ?_⟩
  rw [Fence.inRound_round, Oper.semAt_some l a.eval o hd]
  unfold Oper.wp at h
  cases hr : (execOp a.eval o).run P w with
  | ok x w' =>
    rw [hr] at h
    cases x with
    | value v => exact h
    | skip => exact h
    | defer d => exact h
    | enter f args => exact ⟨(fun e => nomatch e), (callsIn_wide.2 h).inRound l⟩
    | row r args => exact ⟨(fun e => nomatch e), rows_round h⟩
    | _ => exact h.elim
  | halt x w' =>
    rw [hr] at h
    cases x with
    | panic v => exact h
    | _ => exact h.elim
theorem any_round {md : Region.Mode} (hd : ∀ o ∈ ops.toList, ∀ c, o.op ≠ .defer c) (hQ : ¬ LetsOut Q) : ∀ (fuel : Nat) (listed : Array Bool) (a : Act) (w : World), wpAny P md ops Q fuel listed a w → wpAnyIn (Fence.wide.inRound l) n P md ops Q fuel listed a w
  | 0, _, _, _, h => h
  | fuel + 1, listed, a, w, h => by
    refine ⟨h.1, fun i hi => ?_⟩
    have h2 := h.2 i hi
    unfold wpOp at h2
    unfold wpOpIn
    cases ho : ops[i]? with
    | none => rw [ho] at h2; exact any_round hd hQ fuel _ a w h2
    | some o =>
      rw [ho] at h2
      dsimp only at h2 ⊢
      have hdo : ∀ c, o.op ≠ .defer c := hd o (by rw [Array.mem_toList_iff]; exact Array.mem_of_getElem? ho)
      split at h2
      · rename_i hw
        rw [if_pos hw]
        rcases h2 with h3 | h3
        · exact Oper.wpIn_mono (fun a w h => any_round hd hQ fuel _ a w h) (op_round hdo h3)
        · exact absurd h3.2 hQ
      · rename_i hw
        rw [if_neg hw]
        exact ⟨fun _ _ => trivial, any_round hd hQ fuel _ _ w h2⟩
theorem region_round {id N : Nat} {a : Act} {w : World} {S : World → Prop} {ds : List Nat} (l0 : Array Bool) (hm : P.follows .mixedOrders = true) (hd : ∀ o ∈ ops.toList, ∀ c, o.op ≠ .defer c) (hQ : ¬ LetsOut Q) (hn : ops.size = N) (hl : Array.replicate N false = l0) (hS : S w.drew)
    (h : S w.drew → wpAnyLast P .any ops Q S ds N l0 a w.drew) : (Code.region id ops true).wpIn (Fence.wide.inRound l) n P Q a w := by
  subst hn
  subst hl
  exact wpIn_region_any hm (any_round hd hQ _ _ _ _ (wpAny_of_last _ _ _ _ (h hS)))
end Go.Proofs.Ytekakngojhnleaa.Rg
/- Links: Out of the program walked: a frame that is put to what goes out. -/
namespace Go.Proofs.Ytekakngojhnleaa.Ou
open Go.RowKit Go.Maps Go.Shelf Go.Proofs.Ytekakngojhnleaa.Mp Go.Proofs.Ytekakngojhnleaa.Mq Go.Proofs.Ytekakngojhnleaa.Lp Go.Proofs.Ytekakngojhnleaa.Lm Go.Proofs.Ytekakngojhnleaa.La Go.Proofs.Ytekakngojhnleaa.Lb Go.Proofs.Ytekakngojhnleaa.Lc Go.Proofs.Ytekakngojhnleaa.Ld Go.Proofs.Ytekakngojhnleaa.Le Go.Proofs.Ytekakngojhnleaa.En Go.Proofs.Ytekakngojhnleaa.Dw Go.Proofs.YtekakngojhnleaaW.PrintWords Go.Proofs.YtekakngojhnleaaW.PrintLast Go.Proofs.YtekakngojhnleaaW.PrintMore
set_option linter.unusedVariables false
set_option linter.unusedSimpArgs false
variable {w : World} {B N p : Nat} {S : Nat → Prop} {σ : Lk}

/-- What goes out: a variable in block o. -/
structure OVx (w : World) (Bo o : Nat) (fs : List (List Int)) (v : Value) (hs : List Hd) : Prop where
  box : w.heap[o]? = some (.cells #[v] 44 (0, 0))
  q : kH.Q 30 w Bo (fun k => some k = v.ownBlock) v hs
  b : Bods w Bo hs fs
def OV (w : World) (Bo o : Nat) (fs : List (List Int)) : Prop := ∃ v hs, OVx w Bo o fs v hs
theorem others_below {w w' : World} (h : Below w.heap.size w w') : KeepsOthers w w' := ⟨h.size, fun k o hk _ => (h.block k (blk_lt hk)).trans hk⟩
theorem OVx.below {w' : World} {Bo o : Nat} {fs : List (List Int)} {v : Value} {hs : List Hd} (h : OVx w Bo o fs v hs) (hb : Below w.heap.size w w') : OVx w' Bo o fs v hs :=
  ⟨blk_below h.box hb, Kd.Q_below h.q hb, h.b.keep (Keep5.below hb)⟩
theorem OV.below {w' : World} {Bo o : Nat} {fs : List (List Int)} (h : OV w Bo o fs) (hb : Below w.heap.size w w') : OV w' Bo o fs := by
  obtain ⟨v, hs, h⟩ := h; exact ⟨v, hs, h.below hb⟩
/-- What is turned: the variable o, and rows of headers. -/
def PutK (o : Nat) (w w' : World) : Prop := ∀ k, k < w.heap.size → k ≠ o → (∀ cs, w.heap[k]? ≠ some (.cells cs 30 (0, 0))) → w'.heap[k]? = w.heap[k]?
theorem PutK.block {o : Nat} {w w' : World} (h : PutK o w w') {k : Nat} {ob : Obj} (hk : w.heap[k]? = some ob) (hko : k ≠ o) (ht : ∀ cs, ob ≠ .cells cs 30 (0, 0)) : w'.heap[k]? = some ob := (h k (blk_lt hk) hko (fun cs e => ht cs (by rw [hk] at e; exact Option.some.inj e))).trans hk
theorem put_end {Bo o : Nat} {fs : List (List Int)} {v v9 : Value} {hs : List Hd} {w9 : World} (h : OVx w Bo o fs v hs) (ho : Bo ≤ o) {x : Hd} {l : List Int} (hx : Bd w Bo (encH x) l)
    (hq9 : kH.Q 30 w9 Bo (fun k => some k = v.ownBlock ∨ w.heap.size ≤ k) v9 (hs ++ [x])) (hg : w.grownBy w9 v.ownBlock) (hat : v9.ownBlock = v.ownBlock ∨ ∃ k, v9.ownBlock = some k ∧ w.heap.size ≤ k) :
    w9.heap[o]? = some (.cells #[v] 44 (0, 0)) ∧ OV (w9.setCell ⟨o, 0, none⟩ v9) Bo o (fs ++ [l]) ∧ Below Bo w (w9.setCell ⟨o, 0, none⟩ v9) ∧ KeepsOthers w (w9.setCell ⟨o, 0, none⟩ v9) ∧ Keep5 w (w9.setCell ⟨o, 0, none⟩ v9) ∧ PutK o w (w9.setCell ⟨o, 0, none⟩ v9) := by
  have hno : v.ownBlock ≠ some o := fun e => by
    obtain ⟨cs, hc⟩ := Kd.Q_typed h.q o e
    have := h.box
    rw [hc] at this
    cases this
  have hlt : o < w.heap.size := blk_lt h.box
  have hblk : w9.heap[o]? = some (.cells #[v] 44 (0, 0)) := (hg.block o hlt (fun e => hno e.symm)).trans h.box
  have hn9 : v9.ownBlock ≠ some o := fun e => by
    rcases hat with h1 | ⟨k, h1, h2⟩
    · exact hno (by rw [← h1, e])
    · rw [h1] at e; cases e; omega
  have k09 : Keep5 w w9 := Keep5.grown hg (fun k hk cs hc => by
    obtain ⟨cs', hc'⟩ := Kd.Q_typed h.q k hk
    rw [hc] at hc'
    cases hc')
  have k9 : Keep5 w9 (w9.setCell ⟨o, 0, none⟩ v9) := Keep5.set hblk (by decide)
  refine ⟨hblk, ⟨v9, hs ++ [x], ?_, Kd.Q_far (Kd.Q_tight rfl hq9) (fun k hk e => hn9 (by rw [← hk, e])) v9, ((h.b.keep k09).snoc (hx.keep k09)).keep k9⟩, ?_, ?_, k09.trans k9, fun k hlt' hko ht => ?_⟩
  · rw [blk_put hblk 0 v9 rfl]; rfl
  · exact (pw_below_grown (Below.refl Bo w) _ (by omega) hg (fun k hk => Kd.Q_base h.q k hk)).setCell ho v9
  · exact (KeepsOthers.of_grownBy hg (fun j o' ej hj => by
      obtain ⟨cs, hc⟩ := Kd.Q_typed h.q j ej
      rw [hc] at hj; cases hj; rfl)).trans (KeepsOthers.setCell _ _ _)
  · rw [Below.heap_setCell _ _ _ _ hko]
    exact hg.block k hlt' (fun e => by obtain ⟨cs, hc⟩ := Kd.Q_typed h.q k e.symm; exact ht cs hc)
set_option maxRecDepth 100000 in
set_option maxHeartbeats 1000000 in
theorem put_calls {Bo o : Nat} {fs : List (List Int)} (h : OV w Bo o fs) (ho : Bo ≤ o) (hf : fs.length ≤ 1000) (d : Bool) (s a : Nat) (A : Option Addr) (c : Nat) (l : List Int) (hr : Kd.C (Kd.int .u8) w A l.length l) (hc : l.length ≤ c)
    (hrt : Rt.rightB d s a l.length = true) (hs : s ≤ 1073741824) (ha : a ≤ 1073741824) (hl : l.length ≤ 1048576) (hb : ∀ x ∈ l, 0 ≤ x ∧ x < 256) :
    Calls Try.prog 52 #[.agg #[.bool d, .int .i64 (s : Int), .int .i64 (a : Int), .slice A l.length c], .pointer (some ⟨o, 0, none⟩)] w fun e w' => e = .returned (.tuple #[]) ∧ OV w' Bo o (fs ++ [frameL d s a l]) ∧ Below Bo w w' ∧ KeepsOthers w w' ∧ Keep5 w w' ∧ PutK o w w' := by
  obtain ⟨v, hs', hx⟩ := h
  have HX := Aside0.mk hx
  have HR := Aside0.mk hr
  have HRT := Aside0.mk hrt
  have HB := Aside0.mk hb
  have HLN := Aside0.mk (show (hs'.length + 1) * 24 ≤ 140737488355328 by have := hx.b.1; omega)
  have HBO := Aside0.mk (show Bo ≤ w.heap.size by have := blk_lt hx.box; omega)
  clear hx hr hrt hb
  go_enter Try.func52, Try.ntmps52
  go_wp2_with fail
  refine (encode_yes d s a A c l _ (Kd.C_alloc HR.out _) hc HRT.out hs ha hl HB.out).mono ?_
  rintro e w1 ⟨V, rfl, hr1, hb1⟩
  obtain ⟨A1, c1, rfl⟩ := Kd.R_slice hr1
  have hbw : Below w.heap.size w w1 := (below_alloc (Below.refl _ w) _).trans (hb1.mono (by rw [size_al]; omega))
  have HX1 := Aside0.mk (HX.out.below hbw)
  have HBD := Aside0.mk (show Bd w1 Bo (encH ⟨A1, (frameL d s a l).length, c1⟩) (frameL d s a l) from Bd.of hr1 (by rw [size_al]; have := HBO.out; omega))
  have HBW := Aside0.mk hbw
  have HBO1 := Aside0.mk (Nat.le_trans HBO.out hbw.size)
  have o0 : w1.cell? ⟨o, 0, none⟩ = some v := blk_cell HX1.out.box 0
  clear hr1 hb1 hbw
  obtain ⟨F, hF⟩ : ∃ F, F = frameL d s a l := ⟨_, rfl⟩
  rw [← hF] at HBD ⊢
  have HFF := Aside0.mk hF
  clear hF
  go_wp2_with ((with_reducible refine gate_builtin (b := .append) (xs := #[.tmp 10, .tmp 12]) rfl ?_); at_builtin; refine Kd.Q_append kH (w0 := w1) Bo rfl (.tmp 10) (.tmp 12) 44 30 (.slice none 0 0) 24 rfl Try.underlying44 info30 rfl (by decide) (by omega) v hs' ⟨A1, F.length, c1⟩ [encH ⟨A1, F.length, c1⟩] (fun k => some k = v.ownBlock ∨ w1.heap.size ≤ k) (fun _ => False) rfl rfl rfl (fun _ hk => hk.elim) (fun k hk => .inr hk) (Kd.Q_mono HX1.out.q (fun k hk => .inl hk)) (Below.refl _ _) HBO1.out HLN.out ?_; intro v9 w9 hq9 _ hg9 hat9; obtain ⟨A9, c9, rfl, _⟩ := Kd.Q_slice hq9; have HPE := Aside0.mk (put_end HX1.out ho HBD.out hq9 hg9 hat9); have q0 : w9.cell? ⟨o, 0, none⟩ = some v := blk_cell HPE.out.1 0; have q1 : w9.frozen? ⟨o, 0, none⟩ = false := blk_frozen HPE.out.1 0; clear hq9 hg9 hat9 o0)
  go_end0
  obtain ⟨_, e1, e2, e3, e4, e5⟩ := HPE.out
  rw [show (hs' ++ [(⟨A1, F.length, c1⟩ : Hd)]).length = hs'.length + 1 by simp] at e1 e2 e3 e4 e5
  rw [← HFF.out]
  refine ⟨rfl, e1, (HBW.out.mono HBO.out).trans e2, (others_below HBW.out).trans e3, (Keep5.below HBW.out).trans e4, fun k h1 h2 h3 => ?_⟩
  have e6 := HBW.out.block k h1
  exact (e5 k (Nat.lt_of_lt_of_le h1 HBW.out.size) h2 (fun cs => by rw [e6]; exact h3 cs)).trans e6
end Go.Proofs.Ytekakngojhnleaa.Ou
/- Links: Out of the program walked: the messages that are due, one by one. -/
namespace Go.Proofs.Ytekakngojhnleaa.Ov
open Go.RowKit Go.Maps Go.Shelf Go.Proofs.Ytekakngojhnleaa.Mp Go.Proofs.Ytekakngojhnleaa.Mq Go.Proofs.Ytekakngojhnleaa.Lp Go.Proofs.Ytekakngojhnleaa.Lm Go.Proofs.Ytekakngojhnleaa.La Go.Proofs.Ytekakngojhnleaa.Lb Go.Proofs.Ytekakngojhnleaa.Lc Go.Proofs.Ytekakngojhnleaa.Ld Go.Proofs.Ytekakngojhnleaa.Le Go.Proofs.Ytekakngojhnleaa.Rg Go.Proofs.Ytekakngojhnleaa.Ou Go.Proofs.Ytekakngojhnleaa.En Go.Proofs.Ytekakngojhnleaa.Dw Go.Proofs.YtekakngojhnleaaW.PrintWords Go.Proofs.YtekakngojhnleaaW.PrintLast Go.Proofs.YtekakngojhnleaaW.PrintMore
set_option linter.unusedVariables false
set_option linter.unusedSimpArgs false
attribute [local go_sem] Oper.semAt_some
variable {w : World} {B N p : Nat} {S : Nat → Prop} {σ : Lk}

/-- What stands while Out goes: x: the variables' blocks are those behind x. -/
structure IO (w : World) (B N : Nat) (S : Nat → Prop) (p : Nat) (σ : Lk) (b : Nat) (vq vi : Value) (hq hi : List Hd) (n s : Nat) (f : Int → Option Value) (st : List Nat × Nat) (W : World) : Prop where
  lp : LPx W B N S p { σ with sent := st.2 } b vq vi hq hi n s f
  fr : FrL B S S w W
  ov : OV W w.heap.size (w.heap.size + 1) (st.1.map (fData σ))
  bx : W.heap[w.heap.size]? = some (.cells #[.pointer (some ⟨p, 0, none⟩)] 22 (0, 0))
  pb : W.heap[w.heap.size + 2]? = some (.cells #[.func (.func 52) #[] #[.pointer (some ⟨w.heap.size + 1, 0, none⟩)]] 94 (0, 0))
  bd : W.heap[w.heap.size + 3]? = some (.cells #[.pointer (some ⟨p, 0, none⟩)] 22 (0, 0))
section
variable {b n s : Nat} {vq vi : Value} {hq hi : List Hd} {f : Int → Option Value} {st : List Nat × Nat} {W : World}
theorem LPx.sent {sv sv' : Nat} (h : LPx W B N S p { σ with sent := sv } b vq vi hq hi n s f) : LPx (W.setCell ⟨p, 3, none⟩ (.int .i64 (sv' : Int))) B N S p { σ with sent := sv' } b vq vi hq hi n s f := by
  obtain ⟨g0, g1, g2, g3, g4, g5, g6, g7⟩ := LPx.put h 3 (.int .i64 (sv' : Int))
  refine ⟨g0, g1, g2, g3, g4, g5, h.mn, g6, h.sp, h.sb, h.sq, h.si, h.ap, ?_, h.ge⟩
  intro k hk
  rw [World.size_setCell]
  exact h.lt k hk
theorem IO.step {W' : World} (h : IO w B N S p σ b vq vi hq hi n s f st W) (hb : Below W.heap.size W W') : IO w B N S p σ b vq vi hq hi n s f st W' := by
  have hB : B ≤ W.heap.size := by have := h.lp.ge p h.lp.sp; have := blk_lt h.lp.blk; omega
  exact ⟨LPx.below h.lp hb, FrL.below h.fr hb hB, h.ov.below hb, blk_below h.bx hb, blk_below h.pb hb, blk_below h.bd hb⟩
theorem IO.drew (h : IO w B N S p σ b vq vi hq hi n s f st W) : IO w B N S p σ b vq vi hq hi n s f st W.drew := h.step (below_drew (Below.refl _ W))
theorem OV.far {Bo o : Nat} {fs : List (List Int)} (h : OV W Bo o fs) {g j t : Nat} {cs : Array Value} {v : Value} (hg : W.heap[g]? = some (.cells cs t (0, 0))) (ht : t ≠ 30) (ht5 : t ≠ 5) (hgo : g ≠ o) : OV (W.setCell ⟨g, j, none⟩ v) Bo o fs := by
  obtain ⟨v0, hs, h⟩ := h
  refine ⟨v0, hs, by rw [Below.heap_setCell _ _ _ _ (fun e => hgo e.symm)]; exact h.box, Kd.Q_far h.q (fun k hk e => ?_) v, h.b.keep (Keep5.set hg ht5)⟩
  obtain ⟨cs', hc⟩ := Kd.Q_typed h.q k hk.symm
  rw [e, hg] at hc
  cases hc
  exact ht rfl
theorem IO.count (h : IO w B N S p σ b vq vi hq hi n s f st W) (hp : p < w.heap.size) (sv : Nat) : IO w B N S p σ b vq vi hq hi n s f (st.1, sv) (W.setCell ⟨p, 3, none⟩ (.int .i64 (sv : Int))) := by
  have hblk := h.lp.blk
  refine ⟨LPx.sent h.lp, FrL.trans h.fr (FrL.set (h.lp.ge p h.lp.sp) h.lp.sp ⟨_, hblk⟩ 3 _), OV.far h.ov hblk (by decide) (by decide) (by omega), ?_, ?_, ?_⟩ <;> rw [Below.heap_setCell _ _ _ _ (by show _ ≠ p; omega)]
  · exact h.bx
  · exact h.pb
  · exact h.bd
end
theorem due_calls (w : World) : Calls Try.prog 53 #[.pointer (some ⟨p, 0, none⟩)] w fun e w' => e = .returned (.func (.func 81) #[] #[.pointer (some ⟨w.heap.size, 0, none⟩)]) ∧ w' = w.alloc (.cells #[.pointer (some ⟨p, 0, none⟩)] 22) := by
  go_enter Try.func53, Try.ntmps53
  go_wp2_with fail
  go_ret
  exact ⟨rfl, rfl⟩
def nxO (st : List Nat × Nat) (x : Int) : List Nat × Nat := (st.1 ++ [x.toNat], st.2)
def mayO (σ : Lk) (st : List Nat × Nat) (x : Int) : Prop := ∃ k : Nat, x = (k : Int) ∧ σ.sure ≤ k ∧ k < σ.took.length ∧ st.1.length ≤ 100
theorem meas {w1 w2 : World} {q : Addr} {sv ns : Nat} (h4 : w1.cell? q = some (.int .i64 ((sv + 1 : Nat) : Int))) (h5 : w2.cell? q = some (.int .i64 (sv : Int))) (h6 : sv < ns) : ns - (intOf ((w1.cell? q).getD undef)).toNat < ns - (intOf ((w2.cell? q).getD undef)).toNat := by
  rw [h4, h5]
  simp only [Option.getD_some, intOf]
  omega
theorem meas2 {k ns : Nat} (h6 : k < ns) : ns - (intOf (.int .i64 ((k : Int) + 1))).toNat < ns - (intOf (.int .i64 (k : Int))).toNat := by
  simp only [intOf]
  omega
theorem nx_due1 {k : Nat} (h1 : σ.sure ≤ k) : nxO (List.range' σ.sure (k - σ.sure), σ.sent) (k : Int) = (List.range' σ.sure (k + 1 - σ.sure), σ.sent) := by
  unfold nxO
  rw [Int.toNat_natCast, show k + 1 - σ.sure = (k - σ.sure) + 1 by omega, List.range'_concat]
  simp only [Nat.one_mul]
  rw [show σ.sure + (k - σ.sure) = k by omega]
def topN (σ : Lk) : Nat := min (σ.sure + σ.window) σ.took.length
theorem ns_lt {sv : Nat} (h1 : σ.sent ≤ sv) (hlt : sv < newSent σ) : decide (sv < topN σ) = true := by
  refine decide_eq_true ?_
  unfold newSent at hlt
  unfold topN
  omega
theorem ns_ge {sv : Nat} (hlt : ¬ sv < newSent σ) : decide (sv < topN σ) = false := by
  refine decide_eq_false ?_
  unfold newSent at hlt
  unfold topN
  omega
theorem ns_min {M : Nat} (h : Inv M σ) {k : Nat} (hk : k = σ.took.length - σ.sure) : (if k < σ.window then (σ.sure : Int) + (k : Int) else (σ.sure : Int) + (σ.window : Int)) = (topN σ : Int) := by
  have := h.s0; have := h.s1
  unfold topN
  split <;> omega
theorem ns_wrap {M : Nat} (h : Inv M σ) (hM : M ≤ 1000000) {k : Nat} (hk : k = σ.took.length - σ.sure) : wrap64 ((σ.sure : Int) + (σ.window : Int)) = (σ.sure : Int) + (σ.window : Int) ∧ wrap64 ((σ.sure : Int) + (k : Int)) = (σ.sure : Int) + (k : Int) := by
  have := h.s0; have := h.s1; have := h.w1; have := h.tk
  unfold wrap64
  omega
theorem nx_due (D0 : List Nat) {sv : Nat} (h1 : σ.sent ≤ sv) : nxO (D0 ++ List.range' σ.sent (sv - σ.sent), sv) (sv : Int) = (D0 ++ List.range' σ.sent (sv + 1 - σ.sent), sv) := by
  unfold nxO
  rw [Int.toNat_natCast, show sv + 1 - σ.sent = (sv - σ.sent) + 1 by omega, List.range'_concat, List.append_assoc]
  simp only [Nat.one_mul]
  rw [show σ.sent + (sv - σ.sent) = sv by omega]
set_option maxRecDepth 100000 in
set_option maxHeartbeats 4000000 in
theorem due1 {b n s : Nat} {vq vi : Value} {hq hi : List Hd} {f : Int → Option Value} {M : Nat} (hI : Inv M σ) (hM : M ≤ 1000000) (hp : p < w.heap.size) (m : Nat) (hm : 1 ≤ m) (wl : World) (hwl : w.heap.size ≤ wl.heap.size) :
    Iterates m wl.heap.size Try.prog 81 #[.pointer (some ⟨w.heap.size + 3, 0, none⟩)] (fun x => #[.int .i64 x]) (mayO σ) nxO (IO w B N S p σ b vq vi hq hi n s f) ([], σ.sent) (dueL σ, newSent σ) wl := by
  intro l J W hBW hJI hJs hY h0
  have HY := Aside0.mk hY
  have HJI := Aside0.mk hJI
  have HJS := Aside0.mk hJs
  have HI := Aside0.mk (And.intro hI hM)
  have HP := Aside0.mk hp
  have H0 := Aside0.mk h0
  have hio := HJI.out _ _ h0
  obtain ⟨A0, c0, rfl, hcap0⟩ := Kd.Q_slice hio.lp.q
  have q0 : W.cell? ⟨w.heap.size + 3, 0, none⟩ = some (.pointer (some ⟨p, 0, none⟩)) := blk_cell hio.bd 0
  have p8 : W.cell? ⟨p, 8, none⟩ = some (.bool σ.tick) := blk_cell hio.lp.blk 8
  have p2 : W.cell? ⟨p, 2, none⟩ = some (.int .i64 (σ.sure : Int)) := blk_cell hio.lp.blk 2
  clear hY hJI hJs hp h0 hio
  refine callsIn_of_wp Try.func81 rfl trivial ?_ rfl
  simp only [Try.ntmps81, List.size_toArray, List.length_cons, List.length_nil, Nat.reduceAdd, Nat.reduceSub, Array.replicate_succ, Array.replicate_zero, List.push_toArray, List.append_toArray, List.nil_append, List.cons_append]
  have HNS := Aside0.mk (newSent_le hI)
  cases htk : σ.tick with
  | false =>
    rw [htk] at p8
    obtain ⟨D0, hD0⟩ : ∃ D0 : List Nat, D0 = [] := ⟨_, rfl⟩
    have HDU := Aside0.mk (show dueL σ = D0 ++ List.range' σ.sent (newSent σ - σ.sent) by unfold dueL; rw [if_neg (by rw [htk]; simp), hD0])
    have HST := Aside0.mk (show J (D0 ++ List.range' σ.sent 0, σ.sent) W by rw [hD0]; exact H0.out)
    have HDL := Aside0.mk (show D0.length ≤ 16 by rw [hD0]; simp)
    clear hI htk hD0
    gi_wp2
    clear q0 p8 p2
    gi_loopw [62] (fun v62 wr => ∃ (v : Value) (sv : Nat), v62 = v ∧ σ.sent ≤ sv ∧ sv ≤ newSent σ ∧ Aside0 (J (D0 ++ List.range' σ.sent (sv - σ.sent), sv) wr)) (fun _ wr => newSent σ - (intOf ((wr.cell? ⟨p, 3, none⟩).getD undef)).toNat)
    case atStart => exact ⟨_, σ.sent, rfl, Nat.le_refl _, HNS.out.1, ⟨by rw [Nat.sub_self]; exact HST.out⟩⟩
    case round =>
      obtain ⟨v, sv, rfl, h1, h2, HJ⟩ := hrel
      have hio := HJI.out _ _ HJ.out
      have hql : hq.length = σ.took.length - σ.sure := by rw [hio.lp.qb.1, List.length_drop]
      have q0 : wr.cell? ⟨w.heap.size + 3, 0, none⟩ = some (.pointer (some ⟨p, 0, none⟩)) := blk_cell hio.bd 0
      have p0 : wr.cell? ⟨p, 0, none⟩ = some (.int .i64 (σ.window : Int)) := blk_cell hio.lp.blk 0
      have p1 : wr.cell? ⟨p, 1, none⟩ = some (.slice A0 hq.length c0) := blk_cell hio.lp.blk 1
      have p2 : wr.cell? ⟨p, 2, none⟩ = some (.int .i64 (σ.sure : Int)) := blk_cell hio.lp.blk 2
      have p3 : wr.cell? ⟨p, 3, none⟩ = some (.int .i64 (sv : Int)) := blk_cell hio.lp.blk 3
      have HIO := Aside0.mk hio
      have HP3 := Aside0.mk p3
      obtain ⟨hw1, hw2⟩ := ns_wrap HI.out.1 HI.out.2 hql
      have hmin := ns_min HI.out.1 hql
      by_cases hlt : sv < newSent σ
      · have hmn := ns_lt h1 hlt
        have HL := Aside0.mk hlt
        clear hio hql hlt
        gi_wp2
        refine wpIn_wide.2 ?_
        go_quiet (fail)
        have HMN := Aside0.mk hmn
        clear p0 p1 p2 p3 q0 hw1 hw2 hmn hmin
        have HIOd := Aside0.mk (HIO.out.step (pw_below_drewN (Below.refl _ wr) nq))
        have HJd := Aside0.mk (HJS.out _ _ _ _ HJ.out HIOd.out ((others_below (pw_below_drewN (Below.refl _ wr) nq)).from _))
        have hy0 := HY.out _ (sv : Int) _ HJd.out ⟨sv, rfl, by have := HI.out.1.s0; omega, by have := HNS.out; have := HL.out; omega, by
          have e1 := HDL.out; have e2 := HNS.out; have e3 := HL.out; have e4 := HI.out.1.s0; have e5 := HI.out.1.w1
          show (D0 ++ List.range' σ.sent (sv - σ.sent)).length ≤ 100
          rw [List.length_append, List.length_range']; omega⟩
        rw [nx_due D0 h1] at hy0
        generalize hwd : wr.drewN nq = wd at HIOd HJd hy0 ⊢
        clear hwd
        obtain ⟨fn, tmps, assign, body, hy, hR⟩ := hy0
        have q0 : wd.cell? ⟨w.heap.size + 3, 0, none⟩ = some (.pointer (some ⟨p, 0, none⟩)) := blk_cell HIOd.out.bd 0
        have p3 : wd.cell? ⟨p, 3, none⟩ = some (.int .i64 (sv : Int)) := blk_cell HIOd.out.lp.blk 3
        have hmn := HMN.out
        gi_wp2
        clear hmn
        refine hR.mono ?_
        rintro e W3 ⟨rfl, hJ3⟩
        clear hy hR q0 p3
        have hio3 := HJI.out _ _ hJ3
        have HJ3 := Aside0.mk hJ3
        have HIO3 := Aside0.mk hio3
        have q0 : W3.cell? ⟨w.heap.size + 3, 0, none⟩ = some (.pointer (some ⟨p, 0, none⟩)) := blk_cell hio3.bd 0
        have p3 : W3.cell? ⟨p, 3, none⟩ = some (.int .i64 (sv : Int)) := blk_cell hio3.lp.blk 3
        have z3 : W3.frozen? ⟨p, 3, none⟩ = false := blk_frozen hio3.lp.blk 3
        have hw3 : wrap64 ((sv : Int) + 1) = (sv : Int) + 1 := by have e1 := HL.out; have e2 := HNS.out; have e3 := HI.out.1.tk; have e4 := HI.out.2; unfold wrap64; omega
        clear hJ3 hio3
        gi_wp2
        go_roundw
        case rel =>
          have hio4 := HIO3.out.count HP.out (sv + 1)
          exact ⟨_, sv + 1, rfl, Nat.le_succ_of_le h1, HL.out, ⟨HJS.out _ _ _ _ HJ3.out hio4 ((KeepsOthers.setCell _ _ _).from _)⟩⟩
        case measure =>
          have hio4 := HIO3.out.count HP.out (sv + 1)
          exact meas (blk_cell hio4.lp.blk 3) HP3.out HL.out
      · have hmn := ns_ge hlt
        have HSV := Aside0.mk (Nat.le_antisymm h2 (Nat.le_of_not_lt hlt))
        clear hio hql hlt h1 h2
        gi_wp2
        refine wpIn_wide.2 ?_
        go_quiet (fail)
        gi_wp2
        go_end0
        refine ⟨⟨_, rfl⟩, ?_⟩
        have h7 := HJS.out _ _ _ _ HJ.out (HIO.out.step (pw_below_drewN (Below.refl _ wr) nq)) ((others_below (pw_below_drewN (Below.refl _ wr) nq)).from wl.heap.size)
        rw [HSV.out] at h7
        rw [HDU.out]
        exact h7
  | true =>
    rw [htk] at p8
    obtain ⟨D0, hD0⟩ : ∃ D0 : List Nat, D0 = List.range' σ.sure (σ.sent - σ.sure) := ⟨_, rfl⟩
    have HDU := Aside0.mk (show dueL σ = D0 ++ List.range' σ.sent (newSent σ - σ.sent) by unfold dueL; rw [if_pos htk, hD0])
    have HDL := Aside0.mk (show D0.length ≤ 16 by rw [hD0, List.length_range']; have e1 := hI.s2; have e2 := hI.w1; omega)
    have HD0 := Aside0.mk hD0
    clear hI htk hD0
    gi_wp2
    clear q0 p8 p2
    gi_loopw [3] (fun v3 wr => ∃ k : Nat, σ.sure ≤ k ∧ k ≤ σ.sent ∧ v3 = .int .i64 (k : Int) ∧ Aside0 (J (List.range' σ.sure (k - σ.sure), σ.sent) wr)) (fun v3 _ => σ.sent - (intOf v3).toNat)
    case atStart => exact ⟨σ.sure, Nat.le_refl _, HI.out.1.s0, rfl, ⟨by rw [Nat.sub_self]; exact H0.out⟩⟩
    case round =>
      obtain ⟨k, h1, h2, rfl, HJ⟩ := hrel
      have hio := HJI.out _ _ HJ.out
      have HIO := Aside0.mk hio
      have q0 : wr.cell? ⟨w.heap.size + 3, 0, none⟩ = some (.pointer (some ⟨p, 0, none⟩)) := blk_cell hio.bd 0
      have p3 : wr.cell? ⟨p, 3, none⟩ = some (.int .i64 (σ.sent : Int)) := blk_cell hio.lp.blk 3
      by_cases hlt : k < σ.sent
      · have hmn : decide (k < σ.sent) = true := decide_eq_true hlt
        have hy0 := HY.out _ (k : Int) _ HJ.out ⟨k, rfl, h1, by have := HI.out.1.s1; omega, by
          have e1 := HI.out.1.s2; have e2 := HI.out.1.w1
          show (List.range' σ.sure (k - σ.sure)).length ≤ 100
          rw [List.length_range']; omega⟩
        obtain ⟨fn, tmps, assign, body, hy, hR⟩ := hy0
        have HL := Aside0.mk hlt
        have HLO := Aside0.mk h1
        have hw3 : wrap64 ((k : Int) + 1) = (k : Int) + 1 := by have e2 := HI.out.1.s1; have e3 := HI.out.1.tk; have e4 := HI.out.2; unfold wrap64; omega
        clear hio hlt h1 h2
        gi_wp2
        refine hR.mono ?_
        rintro e W3 ⟨rfl, hJ3⟩
        clear hy hR q0 p3 hmn
        have HJ3 := Aside0.mk hJ3
        clear hJ3
        gi_wp2
        go_roundw
        case rel =>
          exact ⟨k + 1, Nat.le_succ_of_le HLO.out, HL.out, by go_num, ⟨by rw [← nx_due1 HLO.out]; exact HJ3.out⟩⟩
        case measure => rw [hw3]; exact meas2 HL.out
      · have hmn : decide (k < σ.sent) = false := decide_eq_false hlt
        have HKS := Aside0.mk (Nat.le_antisymm h2 (Nat.le_of_not_lt hlt))
        clear hio hlt h1 h2
        gi_wp2
        clear hmn q0 p3
        have HST := Aside0.mk (show J (D0 ++ List.range' σ.sent 0, σ.sent) wr by have e := HJ.out; rw [HKS.out] at e; rw [HD0.out, List.range'_zero, List.append_nil]; exact e)
        clear HJ HIO
        gi_loopw [62] (fun v62 wr => ∃ (v : Value) (sv : Nat), v62 = v ∧ σ.sent ≤ sv ∧ sv ≤ newSent σ ∧ Aside0 (J (D0 ++ List.range' σ.sent (sv - σ.sent), sv) wr)) (fun _ wr => newSent σ - (intOf ((wr.cell? ⟨p, 3, none⟩).getD undef)).toNat)
        case atStart => exact ⟨_, σ.sent, rfl, Nat.le_refl _, HNS.out.1, ⟨by rw [Nat.sub_self]; exact HST.out⟩⟩
        case round =>
          obtain ⟨v, sv, rfl, h1, h2, HJ⟩ := hrel
          have hio := HJI.out _ _ HJ.out
          have hql : hq.length = σ.took.length - σ.sure := by rw [hio.lp.qb.1, List.length_drop]
          have q0 : wr.cell? ⟨w.heap.size + 3, 0, none⟩ = some (.pointer (some ⟨p, 0, none⟩)) := blk_cell hio.bd 0
          have p0 : wr.cell? ⟨p, 0, none⟩ = some (.int .i64 (σ.window : Int)) := blk_cell hio.lp.blk 0
          have p1 : wr.cell? ⟨p, 1, none⟩ = some (.slice A0 hq.length c0) := blk_cell hio.lp.blk 1
          have p2 : wr.cell? ⟨p, 2, none⟩ = some (.int .i64 (σ.sure : Int)) := blk_cell hio.lp.blk 2
          have p3 : wr.cell? ⟨p, 3, none⟩ = some (.int .i64 (sv : Int)) := blk_cell hio.lp.blk 3
          have HIO := Aside0.mk hio
          have HP3 := Aside0.mk p3
          obtain ⟨hw1, hw2⟩ := ns_wrap HI.out.1 HI.out.2 hql
          have hmin := ns_min HI.out.1 hql
          by_cases hlt : sv < newSent σ
          · have hmn := ns_lt h1 hlt
            have HL := Aside0.mk hlt
            clear hio hql hlt
            gi_wp2
            refine wpIn_wide.2 ?_
            go_quiet (fail)
            have HMN := Aside0.mk hmn
            clear p0 p1 p2 p3 q0 hw1 hw2 hmn hmin
            have HIOd := Aside0.mk (HIO.out.step (pw_below_drewN (Below.refl _ wr) nq))
            have HJd := Aside0.mk (HJS.out _ _ _ _ HJ.out HIOd.out ((others_below (pw_below_drewN (Below.refl _ wr) nq)).from _))
            have hy0 := HY.out _ (sv : Int) _ HJd.out ⟨sv, rfl, by have := HI.out.1.s0; omega, by have := HNS.out; have := HL.out; omega, by
              have e1 := HDL.out; have e2 := HNS.out; have e3 := HL.out; have e4 := HI.out.1.s0; have e5 := HI.out.1.w1
              show (D0 ++ List.range' σ.sent (sv - σ.sent)).length ≤ 100
              rw [List.length_append, List.length_range']; omega⟩
            rw [nx_due D0 h1] at hy0
            generalize hwd : wr.drewN nq = wd at HIOd HJd hy0 ⊢
            clear hwd
            obtain ⟨fn, tmps, assign, body, hy, hR⟩ := hy0
            have q0 : wd.cell? ⟨w.heap.size + 3, 0, none⟩ = some (.pointer (some ⟨p, 0, none⟩)) := blk_cell HIOd.out.bd 0
            have p3 : wd.cell? ⟨p, 3, none⟩ = some (.int .i64 (sv : Int)) := blk_cell HIOd.out.lp.blk 3
            have hmn := HMN.out
            gi_wp2
            clear hmn
            refine hR.mono ?_
            rintro e W3 ⟨rfl, hJ3⟩
            clear hy hR q0 p3
            have hio3 := HJI.out _ _ hJ3
            have HJ3 := Aside0.mk hJ3
            have HIO3 := Aside0.mk hio3
            have q0 : W3.cell? ⟨w.heap.size + 3, 0, none⟩ = some (.pointer (some ⟨p, 0, none⟩)) := blk_cell hio3.bd 0
            have p3 : W3.cell? ⟨p, 3, none⟩ = some (.int .i64 (sv : Int)) := blk_cell hio3.lp.blk 3
            have z3 : W3.frozen? ⟨p, 3, none⟩ = false := blk_frozen hio3.lp.blk 3
            have hw3 : wrap64 ((sv : Int) + 1) = (sv : Int) + 1 := by have e1 := HL.out; have e2 := HNS.out; have e3 := HI.out.1.tk; have e4 := HI.out.2; unfold wrap64; omega
            clear hJ3 hio3
            gi_wp2
            go_roundw
            case rel =>
              have hio4 := HIO3.out.count HP.out (sv + 1)
              exact ⟨_, sv + 1, rfl, Nat.le_succ_of_le h1, HL.out, ⟨HJS.out _ _ _ _ HJ3.out hio4 ((KeepsOthers.setCell _ _ _).from _)⟩⟩
            case measure =>
              have hio4 := HIO3.out.count HP.out (sv + 1)
              exact meas (blk_cell hio4.lp.blk 3) HP3.out HL.out
          · have hmn := ns_ge hlt
            have HSV := Aside0.mk (Nat.le_antisymm h2 (Nat.le_of_not_lt hlt))
            clear hio hql hlt h1 h2
            gi_wp2
            refine wpIn_wide.2 ?_
            go_quiet (fail)
            gi_wp2
            go_end0
            refine ⟨⟨_, rfl⟩, ?_⟩
            have h7 := HJS.out _ _ _ _ HJ.out (HIO.out.step (pw_below_drewN (Below.refl _ wr) nq)) ((others_below (pw_below_drewN (Below.refl _ wr) nq)).from wl.heap.size)
            rw [HSV.out] at h7
            rw [HDU.out]
            exact h7
end Go.Proofs.Ytekakngojhnleaa.Ov
