/- Parts of the proof of LinkScripts, merged: each is proved for all its inputs. -/
import Derived.Maps.OwnOps
import Derived.Maps.OwnSet
import Derived.Test.YtekakngojhnleaaWWords
import Derived.Maps.RangeWalk
/- Maps keyed by ints, whatever their elements: what stands at each key, how many keys. -/
namespace Go.Proofs.Ytekakngojhnleaa.Mp
open Go.RowKit Go.Maps Go.Proofs.YtekakngojhnleaaW.PrintWords
set_option linter.unusedVariables false
set_option linter.unusedSectionVars false

/-- An element is read as the very value it is. -/
def RV (v : Value) : Option (DataW Value × List MemPlace) := some (.held v, [])
def kl (x : Int) : Lit := .int .i64 x
def I64 (x : Int) : Prop := (Lit.int .i64 x).wf = true
theorem I64.mk {x : Int} (h0 : -9223372036854775808 ≤ x) (h1 : x < 9223372036854775808) : I64 x := by
  unfold I64
  simp only [Lit.wf, Bool.and_eq_true, IntKind.min, IntKind.max, IntKind.bits, IntKind.signed]
  simp
  omega
/-- Block b of w is a map from ints: f x stands at key x; s keys. -/
def IntMap (P : Program) (k : TypeId) (w : World) (b n : Nat) (f : Int → Option Value) (s : Nat) : Prop :=
  ∃ D : DataW Value, w.ownsMap P k RV b n D ∧ Maps.size D = s ∧ ∀ x, I64 x → Maps.has D (kl x) = (f x).isSome ∧ ∀ v, f x = some v → ∀ z, D.atKey (kl x) z = .held v
section
variable {P : Program} {k t e : TypeId} {w w' : World} {b n s : Nat} {f : Int → Option Value}
theorem IntMap.made (P : Program) (k : TypeId) (w : World) : IntMap P k (w.alloc (.map #[] 0)) w.heap.size 0 (fun _ => none) 0 :=
  ⟨.map [], World.ownsMap_made w P k RV, rfl, fun x _ => ⟨rfl, fun v h => by cases h⟩⟩
theorem IntMap.lt (h : IntMap P k w b n f s) : b < w.heap.size := by obtain ⟨D, hD, _⟩ := h; exact hD.lt
theorem IntMap.kept {row : Option Nat} (h : IntMap P k w b n f s) (hg : w.grownBy w' row) (hne : some b ≠ row) : IntMap P k w' b n f s := by
  obtain ⟨D, hD, hs, hf⟩ := h; exact ⟨D, hD.kept hg hne, hs, hf⟩
theorem IntMap.below (h : IntMap P k w b n f s) (hb : Below w.heap.size w w') : IntMap P k w' b n f s := h.kept (grown_of_below hb none) (by simp)
theorem IntMap.low (h : IntMap P k w b n f s) {B : Nat} (hb : Below B w w') (hlt : b < B) : IntMap P k w' b n f s := by
  obtain ⟨D, ⟨es, clock, h1, h2⟩, hs, hf⟩ := h
  exact ⟨D, ⟨es, clock, (hb.block b hlt).trans h1, h2⟩, hs, hf⟩
theorem IntMap.alloc (h : IntMap P k w b n f s) (o : Obj) : IntMap P k (w.alloc o) b n f s := h.below (below_alloc (Below.refl _ _) o)
theorem IntMap.drew (h : IntMap P k w b n f s) : IntMap P k w.drew b n f s := h.below (below_drew (Below.refl _ _))
theorem IntMap.far (h : IntMap P k w b n f s) {p : Addr} (hp : b ≠ p.block) (u : Value) : IntMap P k (w.setCell p u) b n f s := by
  obtain ⟨D, hD, hs, hf⟩ := h; exact ⟨D, hD.setCell hp u, hs, hf⟩
theorem IntMap.mono (h : IntMap P k w b n f s) {n' : Nat} (hn : n ≤ n') : IntMap P k w b n' f s := by
  obtain ⟨D, hD, hs, hf⟩ := h; exact ⟨D, hD.mono hn, hs, hf⟩
theorem IntMap.congr (h : IntMap P k w b n f s) {g : Int → Option Value} (hg : ∀ x, I64 x → f x = g x) : IntMap P k w b n g s := by
  obtain ⟨D, hD, hs, hf⟩ := h; exact ⟨D, hD, hs, fun x hx => by rw [← hg x hx]; exact hf x hx⟩
theorem IntMap.size_le (h : IntMap P k w b n f s) : s ≤ n := by
  obtain ⟨D, hD, rfl, hf⟩ := h; exact hD.size_le
/-- The map has a block of its own kind. -/
theorem IntMap.ne_cells (h : IntMap P k w b n f s) {g : Nat} {cs : Array Value} {ty : TypeId} {fr : Nat × Nat} (hg : w.heap[g]? = some (.cells cs ty fr)) : b ≠ g := by
  rintro rfl
  obtain ⟨D, ⟨es, clock, hb, _⟩, _⟩ := h
  rw [hg] at hb
  cases hb
def upd (f : Int → Option Value) (x : Int) (v : Option Value) : Int → Option Value := fun y => if y = x then v else f y
theorem upd_same (f : Int → Option Value) (x : Int) (v : Option Value) : upd f x v x = v := if_pos rfl
theorem upd_other (f : Int → Option Value) {x y : Int} (v : Option Value) (h : y ≠ x) : upd f x v y = f y := if_neg h
theorem kl_ne {x y : Int} (h : y ≠ x) : kl y ≠ kl x := fun e => h (by injection e)
theorem IntMap.put (D : DataW Value) (hD : IsMap D) (hT : Tidy D) (hf : ∀ x, I64 x → Maps.has D (kl x) = (f x).isSome ∧ ∀ v, f x = some v → ∀ z, D.atKey (kl x) z = .held v) (x : Int) (hx : I64 x) (v : Value) :
    Maps.size (D.put (kl x) (.held v)) = (if (f x).isSome then Maps.size D else Maps.size D + 1) ∧ ∀ y, I64 y → Maps.has (D.put (kl x) (.held v)) (kl y) = (upd f x (some v) y).isSome ∧ ∀ u, upd f x (some v) y = some u → ∀ z, (D.put (kl x) (.held v)).atKey (kl y) z = .held u := by
  refine ⟨by rw [size_put hT, (hf x hx).1], fun y hy => ?_⟩
  by_cases h : y = x
  · subst h
    rw [upd_same]
    exact ⟨has_put_same hD (show WideAt.IsKeyLit (kl y) from trivial) _, fun u hu z => by cases hu; exact atKey_put_same hD (show WideAt.IsKeyLit (kl y) from trivial) _ z⟩
  · rw [upd_other f _ h, has_put_other (kl_ne h)]
    exact ⟨(hf y hy).1, fun u hu z => by rw [atKey_put_other (kl_ne h)]; exact (hf y hy).2 u hu z⟩

variable {ops : Array Oper} {rest : List Oper} {o : Oper} {a : Act} {Q : Exit → Act → World → Prop}
/-- 'v, ok := m[k]'. -/
theorem wp_look_ok (K : Keyed P k) (hk : P.underlying k = some (.int .i64)) (ht : P.underlying t = some (.map k e)) {z : Value} (hz : (zeroValue e).run P w = .ok z w) (hown : IntMap P k w b n f s)
    (hg : o.guard = none) (m x : Operand) (hop : o.op = Op.lookup t m x true) (hm : a.eval m = .map (some b)) (y : Int) (hx : a.eval x = .int .i64 y) (hy : I64 y)
    (hK : wpList P ops Q rest (a.put o.dst (.tuple #[(f y).getD z, .bool (f y).isSome])) w) : wpList P ops Q (o :: rest) a w := by
  obtain ⟨D, hD, hs, hf⟩ := hown
  refine wpList_lookup_own_ok w hg m x t hop k e K ht RV hz (.held z) [] rfl b n D hm hD (.int .i64 y) (kl y) hx (keyOf_int_mk hk hy) (fun v ps hv => ?_)
  obtain ⟨h1, h2⟩ := hf y hy
  rw [h1]
  have : v = (f y).getD z := by
    have hv' : DataW.held v = D.atKey (kl y) (.held z) := congrArg Prod.fst (Option.some.inj hv)
    cases h : f y with
    | none =>
      rw [h] at h1
      rw [atKey_of_not_has h1] at hv'
      injection hv'
    | some u =>
      rw [h2 u h] at hv'
      injection hv'
  rw [this]
  exact hK
/-- 'm[k]'. -/
theorem wp_look (K : Keyed P k) (hk : P.underlying k = some (.int .i64)) (ht : P.underlying t = some (.map k e)) {z : Value} (hz : (zeroValue e).run P w = .ok z w) (hown : IntMap P k w b n f s)
    (hg : o.guard = none) (m x : Operand) (hop : o.op = Op.lookup t m x false) (hm : a.eval m = .map (some b)) (y : Int) (hx : a.eval x = .int .i64 y) (hy : I64 y)
    (hK : wpList P ops Q rest (a.put o.dst ((f y).getD z)) w) : wpList P ops Q (o :: rest) a w := by
  obtain ⟨D, hD, hs, hf⟩ := hown
  refine wpList_plain hg fun K' hK' => ?_
  obtain ⟨v, ps, hrun, hv⟩ := hD.lookup K ht hz (R := RV) (zd := .held z) (zp := []) rfl (keyOf_int_mk hk hy)
  obtain ⟨h1, h2⟩ := hf y hy
  have : v = (f y).getD z := by
    have hv' : DataW.held v = D.atKey (kl y) (.held z) := congrArg Prod.fst (Option.some.inj hv)
    cases h : f y with
    | none =>
      rw [h] at h1
      rw [atKey_of_not_has h1] at hv'
      injection hv'
    | some u =>
      rw [h2 u h] at hv'
      injection hv'
  subst this
  unfold Oper.wp
  simp [execOp, hop, hm, hx, hrun, Result.andThen]
  exact hK' _ _ hK
/-- The run of 'm[k]', for regions. -/
theorem run_look (K : Keyed P k) (hk : P.underlying k = some (.int .i64)) (ht : P.underlying t = some (.map k e)) {z : Value} (hz : (zeroValue e).run P w = .ok z w) (hown : IntMap P k w b n f s) (y : Int) (hy : I64 y) :
    (Instr.lookup t (.map (some b)) (.int .i64 y) false).run P w = .ok ((f y).getD z) w := by
  obtain ⟨D, hD, hs, hf⟩ := hown
  obtain ⟨v, ps, hrun, hv⟩ := hD.lookup K ht hz (R := RV) (zd := .held z) (zp := []) rfl (keyOf_int_mk hk hy)
  obtain ⟨h1, h2⟩ := hf y hy
  have : v = (f y).getD z := by
    have hv' : DataW.held v = D.atKey (kl y) (.held z) := congrArg Prod.fst (Option.some.inj hv)
    cases h : f y with
    | none =>
      rw [h] at h1
      rw [atKey_of_not_has h1] at hv'
      injection hv'
    | some u =>
      rw [h2 u h] at hv'
      injection hv'
  rw [← this]
  exact hrun
/-- 'm[k] = v'. -/
theorem wp_store (K : Keyed P k) (hk : P.underlying k = some (.int .i64)) (ht : P.underlying t = some (.map k e)) (hown : IntMap P k w b n f s) (hn : n < maxLen)
    (hg : o.guard = none) (m x u : Operand) (hop : o.op = Op.mapUpdate t m x u) (hm : a.eval m = .map (some b)) (y : Int) (v : Value) (hx : a.eval x = .int .i64 y) (hv : a.eval u = v) (hy : I64 y)
    (hK : ∀ w', IntMap P k w' b (n + 1) (upd f y (some v)) (if (f y).isSome then s else s + 1) → w.grownBy w' (some b) → wpList P ops Q rest (a.put o.dst undef) w') : wpList P ops Q (o :: rest) a w := by
  obtain ⟨D, hD, hs, hf⟩ := hown
  refine wpList_mapUpdate_own w hg m x u t hop k e K ht RV b n D hm hD hn (.int .i64 y) v (kl y) hx hv (keyOf_int_mk hk hy) (.held v) [] rfl (fun w' h1 h2 => hK w' ?_ h2)
  obtain ⟨g1, g2⟩ := IntMap.put D (hD.isMap) (hD.tidy K) hf y hy v
  exact ⟨_, h1, by rw [g1, hs], g2⟩
theorem IntMap.del (D : DataW Value) (hT : Tidy D) (hf : ∀ x, I64 x → Maps.has D (kl x) = (f x).isSome ∧ ∀ v, f x = some v → ∀ z, D.atKey (kl x) z = .held v) (x : Int) (hx : I64 x) :
    Maps.size (D.del (kl x)) = Maps.size D - (if (f x).isSome then 1 else 0) ∧ ∀ y, I64 y → Maps.has (D.del (kl x)) (kl y) = (upd f x none y).isSome ∧ ∀ u, upd f x none y = some u → ∀ z, (D.del (kl x)).atKey (kl y) z = .held u := by
  refine ⟨?_, fun y hy => ?_⟩
  · have := size_del (k := kl x) hT
    rw [(hf x hx).1] at this
    omega
  by_cases h : y = x
  · subst h
    rw [upd_same]
    exact ⟨has_del_same, fun u hu => by cases hu⟩
  · rw [upd_other f _ h, has_del_other (kl_ne h)]
    exact ⟨(hf y hy).1, fun u hu z => by rw [atKey_del_other (kl_ne h)]; exact (hf y hy).2 u hu z⟩
/-- 'delete(m, k)'. -/
theorem wp_delete (K : Keyed P k) (hk : P.underlying k = some (.int .i64)) (ht : P.underlying t = some (.map k e)) (hown : IntMap P k w b n f s)
    (hg : o.guard = none) (m x : Operand) (hop : o.op = Op.call { callee := Callee.builtin Builtin.delete, args := #[m, x], argTypes := #[t, k] }) (hm : a.eval m = .map (some b)) (y : Int) (hx : a.eval x = .int .i64 y) (hy : I64 y)
    (hK : ∀ w', IntMap P k w' b n (upd f y none) (s - (if (f y).isSome then 1 else 0)) → w.grownBy w' (some b) → wpList P ops Q rest (a.put o.dst (.tuple #[])) w') : wpList P ops Q (o :: rest) a w := by
  obtain ⟨D, hD, hs, hf⟩ := hown
  refine wpList_delete_own w hg m x t k hop e K ht RV b n D hm hD (.int .i64 y) (kl y) hx (keyOf_int_mk hk hy) (fun w' h1 h2 => hK w' ?_ h2.grown)
  obtain ⟨g1, g2⟩ := IntMap.del D (hD.tidy K) hf y hy
  exact ⟨_, h1, by rw [g1, hs], g2⟩
/-- The run of 'len(m)', for operations under a guard. -/
theorem run_len (ht : P.underlying t = some (.map k e)) (hown : IntMap P k w b n f s) (ty : TypeId) : (Builtin.len_ #[t] ty #[.map (some b)]).run P w = .ok (.int .i64 (s : Int)) w := by
  obtain ⟨D, hD, rfl, hf⟩ := hown
  exact hD.len ht ty
/-- 'len(m)'. -/
theorem wp_len (ht : P.underlying t = some (.map k e)) (hown : IntMap P k w b n f s) (hg : o.guard = none) (m : Operand) (hop : o.op = Op.call { callee := Callee.builtin Builtin.len, args := #[m], argTypes := #[t] }) (hm : a.eval m = .map (some b))
    (hK : wpList P ops Q rest (a.put o.dst (.int .i64 (s : Int))) w) : wpList P ops Q (o :: rest) a w := by
  obtain ⟨D, hD, rfl, hf⟩ := hown
  exact wpList_len_own w hg m t hop k e ht RV b n D hm hD hK
end
end Go.Proofs.Ytekakngojhnleaa.Mp
/- Maps keyed by ints, further: clear; a range over the map's entries; no key at all. -/
namespace Go.Proofs.Ytekakngojhnleaa.Mq
open Go.RowKit Go.ChangeMaps Go.MapKept Go.Maps Go.Proofs.Ytekakngojhnleaa.Mp Go.Proofs.YtekakngojhnleaaW.PrintWords
set_option linter.unusedVariables false
set_option linter.unusedSectionVars false

theorem same_kl (x y : Int) : (kl y).sameKey (kl x) = decide (y = x) := by
  by_cases h : y = x
  · subst h; simp [kl, Lit.sameKey]
  · simp [kl, Lit.sameKey, h]
section
variable {P : Program} {k t e : TypeId} {w w' : World} {b n r s cnt : Nat} {f : Int → Option Value} {left : Int → Bool}
/-- A range over such a map under way: block r holds it; left x: x is still to come. -/
def IntRange (P : Program) (k : TypeId) (w : World) (b r n : Nat) (f : Int → Option Value) (s : Nat) (left : Int → Bool) (cnt : Nat) : Prop :=
  ∃ (D : DataW Value) (L : Lit → Bool), w.ranges P k RV b r n D L cnt ∧ Maps.size D = s ∧ (∀ x, I64 x → Maps.has D (kl x) = (f x).isSome ∧ ∀ v, f x = some v → ∀ z, D.atKey (kl x) z = .held v) ∧ ∀ x, I64 x → L (kl x) = left x
theorem IntRange.map (h : IntRange P k w b r n f s left cnt) : IntMap P k w b n f s := by
  obtain ⟨D, L, hD, hs, hf, _⟩ := h; exact ⟨D, hD.owns, hs, hf⟩
theorem IntRange.left_eq (h : IntRange P k w b r n f s left cnt) : w.rangeLeft b r = cnt := by
  obtain ⟨D, L, hD, _⟩ := h; exact hD.left_eq
theorem IntRange.lt (h : IntRange P k w b r n f s left cnt) : r < w.heap.size := by
  obtain ⟨D, L, hD, _⟩ := h; exact hD.lt
theorem IntRange.kept {row : Option Nat} (h : IntRange P k w b r n f s left cnt) (hg : w.grownBy w' row) (hb : some b ≠ row) (hr : some r ≠ row) : IntRange P k w' b r n f s left cnt := by
  obtain ⟨D, L, hD, hs, hf, hl⟩ := h; exact ⟨D, L, hD.kept hg hb hr, hs, hf, hl⟩
theorem IntRange.below (h : IntRange P k w b r n f s left cnt) (hb : Below w.heap.size w w') : IntRange P k w' b r n f s left cnt := h.kept (grown_of_below hb none) (by simp) (by simp)
variable {ops : Array Oper} {rest : List Oper} {o : Oper} {a : Act} {Q : Exit → Act → World → Prop}
/-- 'range m'. -/
theorem wp_range (K : Keyed P k) (ht : P.underlying t = some (.map k e)) (hown : IntMap P k w b n f s) (hg : o.guard = none) (m : Operand) (hop : o.op = Op.range t m) (hm : a.eval m = .map (some b))
    (hK : ∀ w', IntRange P k w' b w.heap.size n f s (fun x => (f x).isSome) s → w.grownBy w' none → w'.heap.size = w.heap.size + 1 → wpList P ops Q rest (a.put o.dst (.pointer (some ⟨w.heap.size, 0, none⟩))) w') : wpList P ops Q (o :: rest) a w := by
  obtain ⟨D, hD, rfl, hf⟩ := hown
  exact wpList_range_own w hg m t hop k e K ht RV b n D hm hD (fun w' h1 h2 h3 => hK w' ⟨D, _, h1, rfl, hf, fun x hx => (hf x hx).1⟩ h2 h3)
/-- The step. -/
theorem wp_next (K : Keyed P k) (hk : P.underlying k = some (.int .i64)) (hrg : IntRange P k w b r n f s left cnt) (hg : o.guard = none) (it : Operand) (hop : o.op = Op.next it false) (hit : a.eval it = .pointer (some ⟨r, 0, none⟩))
    (hDone : cnt = 0 → (∀ x, I64 x → left x = false) → wpList P ops Q rest (a.put o.dst (.tuple #[.bool false])) w)
    (hMore : ∀ (x : Int) (v : Value) (w' : World) (cnt' : Nat), I64 x → left x = true → f x = some v → IntRange P k w' b r n f s (fun y => left y && !decide (y = x)) cnt' → cnt' < cnt → w.grownBy w' (some r) → w'.heap.size = w.heap.size →
      (Instr.entry (.pointer (some ⟨r, 0, none⟩))).run P w' = .ok (.tuple #[.int .i64 x, v]) w' → wpList P ops Q rest (a.put o.dst (.tuple #[.bool true, .int .i64 x, v])) w') : wpList P ops Q (o :: rest) a w := by
  obtain ⟨D, L, hD, hs, hf, hl⟩ := hrg
  refine wpList_next_ranges w hg it hop k K RV (Value.int .i64) (fun v : Value => v) (fun key kl' hkey => by obtain ⟨x, rfl, _⟩ := Maps.keyOf_int_inv hk hkey; exact ⟨x, rfl⟩) (fun v y hv => ⟨v, rfl⟩) b r n D L cnt hit hD
    (fun h0 h1 => hDone h0 (fun x hx => by rw [← hl x hx]; exact h1 _)) (fun x c kl' y w' cnt' hkey hlk hv hat hrg hlt hgr hsz hen => ?_)
  obtain ⟨x', ex, rfl, hwx⟩ := Maps.keyOf_int_inv hk hkey
  cases ex
  have hx : I64 x := hwx
  have hlx : left x = true := by rw [← hl x hx]; exact hlk
  cases hv
  have hfx : f x = some c := by
    obtain ⟨h1, h2⟩ := hf x hx
    cases hfx : f x with
    | none =>
      rw [hfx] at h1
      have h3 := atKey_of_not_has h1 (z := (.lit (.bool false) : DataW Value))
      have h4 := hat (.lit (.bool false))
      rw [show (Lit.int .i64 x) = kl x from rfl] at h4
      rw [h3] at h4
      cases h4
    | some u =>
      have h3 := h2 u hfx (.lit (.bool false))
      have h4 := hat (.lit (.bool false))
      rw [show (Lit.int .i64 x) = kl x from rfl, h3] at h4
      injection h4 with h5
      rw [h5]
  refine hMore x c w' cnt' hx hlx hfx ⟨D, _, hrg, hs, hf, fun y hy => ?_⟩ hlt hgr hsz hen
  show (L (kl y) && !(kl y).sameKey (kl x)) = _
  rw [hl y hy, same_kl]
/-- No key at all. -/
theorem zero_iff (K : Keyed P k) (hk : P.underlying k = some (.int .i64)) (h : IntMap P k w b n f s) : s = 0 ↔ ∀ x, I64 x → f x = none := by
  obtain ⟨D, hD, rfl, hf⟩ := h
  have hD0 := hD
  obtain ⟨es, clock, hb, F, hsz, hDe⟩ := hD0
  constructor
  · intro h0 x hx
    have h1 := (hf x hx).1
    have : Maps.has D (kl x) = false := by
      rw [hDe] at h0 ⊢
      rw [size_eq] at h0
      rw [List.eq_nil_of_length_eq_zero h0]
      rfl
    rw [this] at h1
    cases hfx : f x with
    | none => rfl
    | some v => rw [hfx] at h1; cases h1
  · intro h0
    have hh : ∀ x, I64 x → Maps.has D (kl x) = false := fun x hx => by rw [(hf x hx).1, h0 x hx]; rfl
    rw [hDe]
    rw [size_eq, length_sorted, List.length_map]
    cases hes : es.toList with
    | nil => rfl
    | cons y ys =>
      exfalso
      have hy : y ∈ es.toList := by rw [hes]; simp
      obtain ⟨z, hz⟩ := F.reads y hy
      obtain ⟨x, hx1, hx2, hwx⟩ := Maps.keyOf_int_inv hk (WideElems.rd_key hz)
      have h3 := hh x hwx
      rw [hDe, has_eq] at h3
      have h4 := List.any_eq_false.1 h3 (WideElems.rg P k RV y) (mem_sorted.2 (List.mem_map.2 ⟨y, hy, rfl⟩))
      rw [WideElems.rg_of hz, hx2] at h4
      exact h4 (by rw [show Lit.int .i64 x = kl x from rfl, same_kl]; simp)
/-- The run of 'm[k] = v', for regions. -/
theorem run_store (K : Keyed P k) (hk : P.underlying k = some (.int .i64)) (ht : P.underlying t = some (.map k e)) (hown : IntMap P k w b n f s) (hn : n < maxLen) (y : Int) (v : Value) (hy : I64 y) :
    ∃ w', (Instr.mapUpdate t (.map (some b)) (.int .i64 y) v).run P w = .ok () w' ∧ IntMap P k w' b (n + 1) (upd f y (some v)) (if (f y).isSome then s else s + 1) ∧ w.grownBy w' (some b) := by
  obtain ⟨D, hD, hs, hf⟩ := hown
  obtain ⟨w', hrun, h1, h2⟩ := hD.update K ht hn (key := .int .i64 y) (val := v) (kl := kl y) (keyOf_int_mk hk hy) (d := .held v) (ps := []) rfl
  obtain ⟨g1, g2⟩ := IntMap.put D (hD.isMap) (hD.tidy K) hf y hy v
  exact ⟨w', hrun, ⟨_, h1, by rw [g1, hs], g2⟩, h2⟩
/-- 'clear(m)'. -/
theorem wp_clear (K : Keyed P k) (ht : P.underlying t = some (.map k e)) (hown : IntMap P k w b n f s) (hg : o.guard = none) (m : Operand) (hop : o.op = Op.call { callee := Callee.builtin Builtin.clear, args := #[m], argTypes := #[t] }) (hm : a.eval m = .map (some b))
    (hK : ∀ w', IntMap P k w' b 0 (fun _ => none) 0 → w.grownBy w' (some b) → wpList P ops Q rest (a.put o.dst (.tuple #[])) w') : wpList P ops Q (o :: rest) a w := by
  obtain ⟨D, ⟨es, clock, hb, F, hsz, hDe⟩, hs, hf⟩ := hown
  refine wpList_plain hg fun K' hK' => ?_
  unfold Oper.wp
  have hlt : b < w.heap.size := (Array.getElem?_eq_some_iff.1 hb).1
  have hrun : (Builtin.clear_ #[t] o.type #[.map (some b)]).run P w = .ok (.tuple #[]) (setBlock w b (.map #[] clock)) := by
    simp [Builtin.clear_, run_underlying ht, MapKept.run_getObj_map hb, MapKept.run_setObj_map _ hb, Result.andThen, setBlock]
  simp [execOp, hop, resolve, invoke, builtin, hm, hrun, Result.andThen]
  refine hK' _ _ (hK _ ⟨.map [], ⟨#[], clock, ?_, ⟨by simp, ?_, by simp⟩, Nat.le_refl _, rfl⟩, rfl, fun x _ => ⟨rfl, fun v h => by cases h⟩⟩ ⟨rfl, rfl, rfl, by simp [setBlock], fun i hi hne => ?_⟩)
  · simp [setBlock, hlt]
  · exact stamped_empty clock
  · have : i ≠ b := fun e => hne (by rw [e])
    simp [setBlock, Ne.symm this]
end
end Go.Proofs.Ytekakngojhnleaa.Mq
