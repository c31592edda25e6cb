/- Sessions: the state as plain numbers, each call as a plain function; how a session of the program lies in memory. -/
import Derived.Test.YtfimakplmkbbjaaMq
import Derived.Test.YtfimakplmkbbjaaPSessionScriptsx0
namespace Go.Proofs.Ytfimakplmkbbjaa.Sp
open Go.RowKit Go.Maps Go.Proofs.Ytfimakplmkbbjaa.Mp Go.Proofs.Ytfimakplmkbbjaa.Mq Go.Proofs.YtfimakplmkbbjaaW.PrintWords Go.Proofs.YtfimakplmkbbjaaW.PrintLast Go.Proofs.YtfimakplmkbbjaaW.PrintMore
set_option linter.unusedVariables false
set_option linter.unusedSimpArgs false

structure St where
  self : Int
  parties : Int
  patience : Int
  now : Int
  phase : Int
  why : Int
  wt : Int → Option (Int × List Int)
def peerB (σ : St) (p : Int) : Bool := decide (0 ≤ p) && decide (p < σ.parties) && decide (p ≠ σ.self) && (decide (σ.self = 0) || decide (p = 0))
def overS (σ : St) (ph why : Int) : St := { σ with phase := ph, why := why, wt := fun _ => none }
def oddK (k : Int) : Bool := decide (k < 1) || decide (k > 11)
def setW (f : Int → Option (Int × List Int)) (p : Int) (v : Option (Int × List Int)) : Int → Option (Int × List Int) := fun y => if y = p then v else f y
def isB (σ : St) (x : Int) : Bool := (σ.wt x).isSome
def lateB (σ : St) (now : Int) (x : Int) : Bool := match σ.wt x with | none => false | some y => decide (now - y.1 > σ.patience)
def ids16 : List Int := (List.range 16).map Int.ofNat
def awaitS (σ : St) (p : Int) (l : List Int) : Int × St :=
  if σ.phase ≠ 0 then (17, σ) else if peerB σ p = false ∨ l.length = 0 ∨ l.any oddK = true then (1, σ) else if isB σ p = true then (18, σ) else (0, { σ with wt := setW σ.wt p (some (σ.now, l)) })
def kindsOf (σ : St) (p : Int) : List Int := match σ.wt p with | none => [] | some y => y.2
def abortOf (a : Int) : Int := if 1 ≤ a ∧ a ≤ 1000 then a else 18
def takeS (σ : St) (p k a : Int) : Int × St :=
  if σ.phase ≠ 0 then (17, σ) else if peerB σ p = false then (1, σ) else if k = 11 then (0, overS σ 2 (abortOf a)) else if k ∈ kindsOf σ p then (0, { σ with wt := setW σ.wt p none }) else (18, overS σ 2 18)
def tickS (σ : St) (n : Int) : Int × St :=
  if σ.phase ≠ 0 then (17, σ) else if n < 1 ∨ n > 1073741824 - σ.now then (1, σ) else if ids16.any (lateB σ (σ.now + n)) = true then (19, overS { σ with now := σ.now + n } 2 19) else (0, { σ with now := σ.now + n })
def finishS (σ : St) : Int × St := if σ.phase ≠ 0 then (17, σ) else if ids16.any (isB σ) = true then (18, σ) else (0, overS σ 1 0)
def abortS (σ : St) (y : Int) : Int × St := if σ.phase ≠ 0 then (17, σ) else if y < 1 ∨ y > 1000 then (1, σ) else (0, overS σ 2 y)
def whoS (σ : St) : List Int := ids16.filter (isB σ)

structure Inv (σ : St) : Prop where
  p0 : 2 ≤ σ.parties
  p1 : σ.parties ≤ 16
  s0 : 0 ≤ σ.self
  s1 : σ.self < σ.parties
  t0 : 1 ≤ σ.patience
  t1 : σ.patience ≤ 1073741824
  n0 : 0 ≤ σ.now
  n1 : σ.now ≤ 1073741824
  w : ∀ x y, σ.wt x = some y → 0 ≤ x ∧ x < σ.parties ∧ 0 ≤ y.1 ∧ y.1 ≤ σ.now ∧ y.2.length ≤ 17592186044416
  over : σ.phase ≠ 0 → ∀ x, σ.wt x = none
theorem mem_ids {x : Int} : x ∈ ids16 ↔ 0 ≤ x ∧ x < 16 := by
  unfold ids16
  rw [List.mem_map]
  constructor
  · rintro ⟨i, hi, rfl⟩
    rw [List.mem_range] at hi
    exact ⟨Int.natCast_nonneg i, by show (i : Int) < 16; omega⟩
  · rintro ⟨h0, h1⟩
    exact ⟨x.toNat, by rw [List.mem_range]; omega, by simp; omega⟩
theorem Inv.ids {σ : St} (h : Inv σ) {x : Int} (hx : isB σ x = true) : x ∈ ids16 := by
  unfold isB at hx
  cases hy : σ.wt x with
  | none => rw [hy] at hx; cases hx
  | some y => have := h.w x y hy; have := h.p1; exact mem_ids.2 ⟨by omega, by omega⟩
theorem Inv.overS {σ : St} (h : Inv σ) (a b : Int) : Inv (overS σ a b) :=
  ⟨h.p0, h.p1, h.s0, h.s1, h.t0, h.t1, h.n0, h.n1, fun x y e => by simp [Sp.overS] at e, fun _ _ => rfl⟩
theorem Inv.set {σ : St} (h : Inv σ) (hp : σ.phase = 0) (p : Int) (v : Option (Int × List Int)) (hv : ∀ y, v = some y → 0 ≤ p ∧ p < σ.parties ∧ 0 ≤ y.1 ∧ y.1 ≤ σ.now ∧ y.2.length ≤ 17592186044416) : Inv { σ with wt := setW σ.wt p v } :=
  ⟨h.p0, h.p1, h.s0, h.s1, h.t0, h.t1, h.n0, h.n1, fun x y e => by
    simp only [setW] at e
    split at e
    · rename_i hx; subst hx; exact hv y e
    · exact h.w x y e, fun hne => absurd hp hne⟩
theorem Inv.tick {σ : St} (h : Inv σ) (n : Int) (h1 : 1 ≤ n) (h2 : n ≤ 1073741824 - σ.now) : Inv { σ with now := σ.now + n } :=
  ⟨h.p0, h.p1, h.s0, h.s1, h.t0, h.t1, by have := h.n0; show 0 ≤ σ.now + n; omega, by show σ.now + n ≤ _; omega, fun x y e => by obtain ⟨a, b, c, d, l⟩ := h.w x y e; exact ⟨a, b, c, by show y.1 ≤ σ.now + n; omega, l⟩, h.over⟩
theorem peerB_iff {σ : St} {p : Int} : peerB σ p = true ↔ (0 ≤ p ∧ p < σ.parties ∧ p ≠ σ.self ∧ (σ.self = 0 ∨ p = 0)) := by
  unfold peerB
  simp only [Bool.and_eq_true, Bool.or_eq_true, decide_eq_true_eq]
  constructor
  · rintro ⟨⟨⟨a, b⟩, c⟩, d⟩; exact ⟨a, b, c, d⟩
  · rintro ⟨a, b, c, d⟩; exact ⟨⟨⟨a, b⟩, c⟩, d⟩
theorem Inv.await {σ : St} (h : Inv σ) (p : Int) (l : List Int) (hl : l.length ≤ 17592186044416) : Inv (awaitS σ p l).2 := by
  unfold awaitS
  split
  · exact h
  split
  · exact h
  split
  · exact h
  rename_i h1 h2 h3
  refine h.set (by omega) p _ (fun y hy => ?_)
  have hb : peerB σ p = true := by cases hpb : peerB σ p <;> simp_all
  obtain ⟨a, b, _⟩ := peerB_iff.1 hb
  cases hy
  exact ⟨a, b, h.n0, Int.le_refl _, hl⟩
theorem Inv.take {σ : St} (h : Inv σ) (p k a : Int) : Inv (takeS σ p k a).2 := by
  unfold takeS
  split
  · exact h
  split
  · exact h
  split
  · exact h.overS _ _
  split
  · rename_i h1 h2 h3 h4
    exact h.set (by omega) p none (fun y hy => by cases hy)
  · exact h.overS _ _
theorem Inv.tickS {σ : St} (h : Inv σ) (n : Int) : Inv (tickS σ n).2 := by
  unfold Sp.tickS
  split
  · exact h
  split
  · exact h
  split
  · exact (h.tick n (by omega) (by omega)).overS _ _
  · exact h.tick n (by omega) (by omega)
theorem Inv.finish {σ : St} (h : Inv σ) : Inv (finishS σ).2 := by
  unfold finishS
  split
  · exact h
  split
  · exact h
  · exact h.overS _ _
theorem Inv.abort {σ : St} (h : Inv σ) (y : Int) : Inv (abortS σ y).2 := by
  unfold abortS
  split
  · exact h
  split
  · exact h
  · exact h.overS _ _

theorem law : Keyed Try.prog 3 := int_keyed Try.underlying3
/-- What the map holds. -/
def Lies (w : World) (B : Nat) (ok : Nat → Prop) (f : Int → Option Value) (wt : Int → Option (Int × List Int)) : Prop :=
  ∀ x, I64 x → match wt x with | none => f x = none | some y => ∃ v, f x = some (.agg #[.int .i64 y.1, v]) ∧ (Kd.int .i64).R 3 w B ok v y.2
def cellsP (σ : St) (b : Nat) : Array Value := #[.int .i64 σ.self, .int .i64 σ.parties, .int .i64 σ.patience, .int .i64 σ.now, .int .i64 σ.phase, .int .i64 σ.why, .map (some b)]
/-- A session of the program. -/
def PS (w : World) (B N p b : Nat) (ok : Nat → Prop) (σ : St) : Prop :=
  w.heap[p]? = some (.cells (cellsP σ b) 51 (0, 0)) ∧ ∃ n f s, n ≤ N ∧ IntMap Try.prog 3 w b n f s ∧ Lies w B ok f σ.wt
/-- What a call of the session keeps. -/
def Fr (B p b : Nat) (w w' : World) : Prop := Below B w w' ∧ Kept w w' (fun k => k = p ∨ k = b)
theorem Fr.refl (B p b : Nat) (w : World) : Fr B p b w w := ⟨Below.refl _ _, Kept.refl _ _⟩
theorem Fr.trans {B p b : Nat} {w1 w2 w3 : World} (h : Fr B p b w1 w2) (k : Fr B p b w2 w3) : Fr B p b w1 w3 := ⟨h.1.trans k.1, h.2.then_ k.2 (fun _ h => .inl h)⟩
theorem Fr.below {B p b : Nat} {w1 w2 w3 : World} (h : Fr B p b w1 w2) (hB : B ≤ w2.heap.size) (k : Below w2.heap.size w2 w3) : Fr B p b w1 w3 := ⟨below_then h.1 hB k, h.2.below k⟩
theorem Fr.grown {B p b : Nat} {w1 w2 w3 : World} {row : Option Nat} (h : Fr B p b w1 w2) (hB : B ≤ w2.heap.size) (hg : w2.grownBy w3 row) (hr : ∀ k, row = some k → (k = p ∨ k = b) ∧ B ≤ k) : Fr B p b w1 w3 :=
  ⟨pw_below_grown h.1 row hB hg (fun k hk => (hr k hk).2), Kept.of_grown hg h.2 (fun k hk => .inl (hr k hk).1)⟩
theorem Fr.set {B p b : Nat} {w1 w2 : World} (h : Fr B p b w1 w2) (hB : B ≤ p) (j : Nat) (v : Value) : Fr B p b w1 (w2.setCell ⟨p, j, none⟩ v) :=
  ⟨h.1.setCell hB _, h.2.setCell (.inl (.inl rfl)) _⟩
theorem IntMap.blk {k : TypeId} {w w' : World} {b n s : Nat} {f : Int → Option Value} {P : Program} (h : IntMap P k w b n f s) (hb : w'.heap[b]? = w.heap[b]?) : IntMap P k w' b n f s := by
  obtain ⟨D, ⟨es, clock, h1, h2⟩, hs, hf⟩ := h
  exact ⟨D, ⟨es, clock, hb.trans h1, h2⟩, hs, hf⟩
theorem Lies.step {w w' : World} {B : Nat} {ok : Nat → Prop} {f : Int → Option Value} {wt : Int → Option (Int × List Int)} (h : Lies w B ok f wt) (hk : ∀ k, ok k → k < w.heap.size → w'.heap[k]? = w.heap[k]?) : Lies w' B ok f wt := by
  intro x hx
  have := h x hx
  cases hy : wt x with
  | none => rw [hy] at this; exact this
  | some y =>
    rw [hy] at this
    obtain ⟨v, hv, hr⟩ := this
    exact ⟨v, hv, Kd.R_step hr hk⟩
theorem PS.kept {w w' : World} {B N p b : Nat} {ok S : Nat → Prop} {σ : St} (h : PS w B N p b ok σ) (hk : Kept w w' S) (hp : ¬ S p) (hb : ¬ S b) (ho : ∀ k, ok k → ¬ S k) : PS w' B N p b ok σ := by
  obtain ⟨h1, n, f, s, hn, hm, hl⟩ := h
  exact ⟨(hk.2 p (blk_lt h1) hp).trans h1, n, f, s, hn, IntMap.blk hm (hk.2 b hm.lt hb), hl.step (fun k hok hlt => hk.2 k hlt (ho k hok))⟩
theorem PS.below {w w' : World} {B N p b : Nat} {ok : Nat → Prop} {σ : St} (h : PS w B N p b ok σ) (hk : Below w.heap.size w w') : PS w' B N p b ok σ :=
  h.kept (Kept.of_below hk (fun _ => False)) (fun h => h) (fun h => h) (fun _ _ h => h)
theorem PS.mono {w : World} {B N M p b : Nat} {ok : Nat → Prop} {σ : St} (h : PS w B N p b ok σ) (hm : N ≤ M) : PS w B M p b ok σ := by
  obtain ⟨h1, n, f, s, hn, hm', hl⟩ := h
  exact ⟨h1, n, f, s, Nat.le_trans hn hm, hm', hl⟩
theorem PS.ne {w : World} {B N p b : Nat} {ok : Nat → Prop} {σ : St} (h : PS w B N p b ok σ) : b ≠ p := by
  obtain ⟨h1, n, f, s, hn, hm, hl⟩ := h
  exact hm.ne_cells h1
end Go.Proofs.Ytfimakplmkbbjaa.Sp
