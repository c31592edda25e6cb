/- Maps keyed by ints, whatever their elements: what stands at each key, how many keys. -/
import Derived.Maps.OwnOps
import Derived.Maps.OwnSet
import Derived.Test.YtfimakplmkbbjaaWWords
namespace Go.Proofs.Ytfimakplmkbbjaa.Mp
open Go.RowKit Go.Maps Go.Proofs.YtfimakplmkbbjaaW.PrintWords
set_option linter.unusedVariables false
set_option linter.unusedSectionVars false

/-- An element is read as the very value it is. -/
def RV (v : Value) : Option (DataW Value × List MemPlace) := some (.held v, [])
def kl (x : Int) : Lit := .int .i64 x
def I64 (x : Int) : Prop := (Lit.int .i64 x).wf = true
theorem I64.mk {x : Int} (h0 : -9223372036854775808 ≤ x) (h1 : x < 9223372036854775808) : I64 x := by
  unfold I64
  simp only [Lit.wf, Bool.and_eq_true, IntKind.min, IntKind.max, IntKind.bits, IntKind.signed]
  simp
  omega
/-- Block b of w is a map from ints: f x stands at key x; s keys. -/
def IntMap (P : Program) (k : TypeId) (w : World) (b n : Nat) (f : Int → Option Value) (s : Nat) : Prop :=
  ∃ D : DataW Value, w.ownsMap P k RV b n D ∧ Maps.size D = s ∧ ∀ x, I64 x → Maps.has D (kl x) = (f x).isSome ∧ ∀ v, f x = some v → ∀ z, D.atKey (kl x) z = .held v
section
variable {P : Program} {k t e : TypeId} {w w' : World} {b n s : Nat} {f : Int → Option Value}
theorem IntMap.made (P : Program) (k : TypeId) (w : World) : IntMap P k (w.alloc (.map #[] 0)) w.heap.size 0 (fun _ => none) 0 :=
  ⟨.map [], World.ownsMap_made w P k RV, rfl, fun x _ => ⟨rfl, fun v h => by cases h⟩⟩
theorem IntMap.lt (h : IntMap P k w b n f s) : b < w.heap.size := by obtain ⟨D, hD, _⟩ := h; exact hD.lt
theorem IntMap.kept {row : Option Nat} (h : IntMap P k w b n f s) (hg : w.grownBy w' row) (hne : some b ≠ row) : IntMap P k w' b n f s := by
  obtain ⟨D, hD, hs, hf⟩ := h; exact ⟨D, hD.kept hg hne, hs, hf⟩
theorem IntMap.below (h : IntMap P k w b n f s) (hb : Below w.heap.size w w') : IntMap P k w' b n f s := h.kept (grown_of_below hb none) (by simp)
theorem IntMap.low (h : IntMap P k w b n f s) {B : Nat} (hb : Below B w w') (hlt : b < B) : IntMap P k w' b n f s := by
  obtain ⟨D, ⟨es, clock, h1, h2⟩, hs, hf⟩ := h
  exact ⟨D, ⟨es, clock, (hb.block b hlt).trans h1, h2⟩, hs, hf⟩
theorem IntMap.alloc (h : IntMap P k w b n f s) (o : Obj) : IntMap P k (w.alloc o) b n f s := h.below (below_alloc (Below.refl _ _) o)
theorem IntMap.drew (h : IntMap P k w b n f s) : IntMap P k w.drew b n f s := h.below (below_drew (Below.refl _ _))
theorem IntMap.far (h : IntMap P k w b n f s) {p : Addr} (hp : b ≠ p.block) (u : Value) : IntMap P k (w.setCell p u) b n f s := by
  obtain ⟨D, hD, hs, hf⟩ := h; exact ⟨D, hD.setCell hp u, hs, hf⟩
theorem IntMap.mono (h : IntMap P k w b n f s) {n' : Nat} (hn : n ≤ n') : IntMap P k w b n' f s := by
  obtain ⟨D, hD, hs, hf⟩ := h; exact ⟨D, hD.mono hn, hs, hf⟩
theorem IntMap.congr (h : IntMap P k w b n f s) {g : Int → Option Value} (hg : ∀ x, I64 x → f x = g x) : IntMap P k w b n g s := by
  obtain ⟨D, hD, hs, hf⟩ := h; exact ⟨D, hD, hs, fun x hx => by rw [← hg x hx]; exact hf x hx⟩
theorem IntMap.size_le (h : IntMap P k w b n f s) : s ≤ n := by
  obtain ⟨D, hD, rfl, hf⟩ := h; exact hD.size_le
/-- The map has a block of its own kind. -/
theorem IntMap.ne_cells (h : IntMap P k w b n f s) {g : Nat} {cs : Array Value} {ty : TypeId} {fr : Nat × Nat} (hg : w.heap[g]? = some (.cells cs ty fr)) : b ≠ g := by
  rintro rfl
  obtain ⟨D, ⟨es, clock, hb, _⟩, _⟩ := h
  rw [hg] at hb
  cases hb
def upd (f : Int → Option Value) (x : Int) (v : Option Value) : Int → Option Value := fun y => if y = x then v else f y
theorem upd_same (f : Int → Option Value) (x : Int) (v : Option Value) : upd f x v x = v := if_pos rfl
theorem upd_other (f : Int → Option Value) {x y : Int} (v : Option Value) (h : y ≠ x) : upd f x v y = f y := if_neg h
theorem kl_ne {x y : Int} (h : y ≠ x) : kl y ≠ kl x := fun e => h (by injection e)
theorem IntMap.put (D : DataW Value) (hD : IsMap D) (hT : Tidy D) (hf : ∀ x, I64 x → Maps.has D (kl x) = (f x).isSome ∧ ∀ v, f x = some v → ∀ z, D.atKey (kl x) z = .held v) (x : Int) (hx : I64 x) (v : Value) :
    Maps.size (D.put (kl x) (.held v)) = (if (f x).isSome then Maps.size D else Maps.size D + 1) ∧ ∀ y, I64 y → Maps.has (D.put (kl x) (.held v)) (kl y) = (upd f x (some v) y).isSome ∧ ∀ u, upd f x (some v) y = some u → ∀ z, (D.put (kl x) (.held v)).atKey (kl y) z = .held u := by
  refine ⟨by rw [size_put hT, (hf x hx).1], fun y hy => ?_⟩
  by_cases h : y = x
  · subst h
    rw [upd_same]
    exact ⟨has_put_same hD (show WideAt.IsKeyLit (kl y) from trivial) _, fun u hu z => by cases hu; exact atKey_put_same hD (show WideAt.IsKeyLit (kl y) from trivial) _ z⟩
  · rw [upd_other f _ h, has_put_other (kl_ne h)]
    exact ⟨(hf y hy).1, fun u hu z => by rw [atKey_put_other (kl_ne h)]; exact (hf y hy).2 u hu z⟩

variable {ops : Array Oper} {rest : List Oper} {o : Oper} {a : Act} {Q : Exit → Act → World → Prop}
/-- 'v, ok := m[k]'. -/
theorem wp_look_ok (K : Keyed P k) (hk : P.underlying k = some (.int .i64)) (ht : P.underlying t = some (.map k e)) {z : Value} (hz : (zeroValue e).run P w = .ok z w) (hown : IntMap P k w b n f s)
    (hg : o.guard = none) (m x : Operand) (hop : o.op = Op.lookup t m x true) (hm : a.eval m = .map (some b)) (y : Int) (hx : a.eval x = .int .i64 y) (hy : I64 y)
    (hK : wpList P ops Q rest (a.put o.dst (.tuple #[(f y).getD z, .bool (f y).isSome])) w) : wpList P ops Q (o :: rest) a w := by
  obtain ⟨D, hD, hs, hf⟩ := hown
  refine wpList_lookup_own_ok w hg m x t hop k e K ht RV hz (.held z) [] rfl b n D hm hD (.int .i64 y) (kl y) hx (keyOf_int_mk hk hy) (fun v ps hv => ?_)
  obtain ⟨h1, h2⟩ := hf y hy
  rw [h1]
  have : v = (f y).getD z := by
    have hv' : DataW.held v = D.atKey (kl y) (.held z) := congrArg Prod.fst (Option.some.inj hv)
    cases h : f y with
    | none =>
      rw [h] at h1
      rw [atKey_of_not_has h1] at hv'
      injection hv'
    | some u =>
      rw [h2 u h] at hv'
      injection hv'
  rw [this]
  exact hK
/-- 'm[k]'. -/
theorem wp_look (K : Keyed P k) (hk : P.underlying k = some (.int .i64)) (ht : P.underlying t = some (.map k e)) {z : Value} (hz : (zeroValue e).run P w = .ok z w) (hown : IntMap P k w b n f s)
    (hg : o.guard = none) (m x : Operand) (hop : o.op = Op.lookup t m x false) (hm : a.eval m = .map (some b)) (y : Int) (hx : a.eval x = .int .i64 y) (hy : I64 y)
    (hK : wpList P ops Q rest (a.put o.dst ((f y).getD z)) w) : wpList P ops Q (o :: rest) a w := by
  obtain ⟨D, hD, hs, hf⟩ := hown
  refine wpList_plain hg fun K' hK' => ?_
  obtain ⟨v, ps, hrun, hv⟩ := hD.lookup K ht hz (R := RV) (zd := .held z) (zp := []) rfl (keyOf_int_mk hk hy)
  obtain ⟨h1, h2⟩ := hf y hy
  have : v = (f y).getD z := by
    have hv' : DataW.held v = D.atKey (kl y) (.held z) := congrArg Prod.fst (Option.some.inj hv)
    cases h : f y with
    | none =>
      rw [h] at h1
      rw [atKey_of_not_has h1] at hv'
      injection hv'
    | some u =>
      rw [h2 u h] at hv'
      injection hv'
  subst this
  unfold Oper.wp
  simp [execOp, hop, hm, hx, hrun, Result.andThen]
  exact hK' _ _ hK
/-- The run of 'm[k]', for regions. -/
theorem run_look (K : Keyed P k) (hk : P.underlying k = some (.int .i64)) (ht : P.underlying t = some (.map k e)) {z : Value} (hz : (zeroValue e).run P w = .ok z w) (hown : IntMap P k w b n f s) (y : Int) (hy : I64 y) :
    (Instr.lookup t (.map (some b)) (.int .i64 y) false).run P w = .ok ((f y).getD z) w := by
  obtain ⟨D, hD, hs, hf⟩ := hown
  obtain ⟨v, ps, hrun, hv⟩ := hD.lookup K ht hz (R := RV) (zd := .held z) (zp := []) rfl (keyOf_int_mk hk hy)
  obtain ⟨h1, h2⟩ := hf y hy
  have : v = (f y).getD z := by
    have hv' : DataW.held v = D.atKey (kl y) (.held z) := congrArg Prod.fst (Option.some.inj hv)
    cases h : f y with
    | none =>
      rw [h] at h1
      rw [atKey_of_not_has h1] at hv'
      injection hv'
    | some u =>
      rw [h2 u h] at hv'
      injection hv'
  rw [← this]
  exact hrun
/-- 'm[k] = v'. -/
theorem wp_store (K : Keyed P k) (hk : P.underlying k = some (.int .i64)) (ht : P.underlying t = some (.map k e)) (hown : IntMap P k w b n f s) (hn : n < maxLen)
    (hg : o.guard = none) (m x u : Operand) (hop : o.op = Op.mapUpdate t m x u) (hm : a.eval m = .map (some b)) (y : Int) (v : Value) (hx : a.eval x = .int .i64 y) (hv : a.eval u = v) (hy : I64 y)
    (hK : ∀ w', IntMap P k w' b (n + 1) (upd f y (some v)) (if (f y).isSome then s else s + 1) → w.grownBy w' (some b) → wpList P ops Q rest (a.put o.dst undef) w') : wpList P ops Q (o :: rest) a w := by
  obtain ⟨D, hD, hs, hf⟩ := hown
  refine wpList_mapUpdate_own w hg m x u t hop k e K ht RV b n D hm hD hn (.int .i64 y) v (kl y) hx hv (keyOf_int_mk hk hy) (.held v) [] rfl (fun w' h1 h2 => hK w' ?_ h2)
  obtain ⟨g1, g2⟩ := IntMap.put D (hD.isMap) (hD.tidy K) hf y hy v
  exact ⟨_, h1, by rw [g1, hs], g2⟩
theorem IntMap.del (D : DataW Value) (hT : Tidy D) (hf : ∀ x, I64 x → Maps.has D (kl x) = (f x).isSome ∧ ∀ v, f x = some v → ∀ z, D.atKey (kl x) z = .held v) (x : Int) (hx : I64 x) :
    Maps.size (D.del (kl x)) = Maps.size D - (if (f x).isSome then 1 else 0) ∧ ∀ y, I64 y → Maps.has (D.del (kl x)) (kl y) = (upd f x none y).isSome ∧ ∀ u, upd f x none y = some u → ∀ z, (D.del (kl x)).atKey (kl y) z = .held u := by
  refine ⟨?_, fun y hy => ?_⟩
  · have := size_del (k := kl x) hT
    rw [(hf x hx).1] at this
    omega
  by_cases h : y = x
  · subst h
    rw [upd_same]
    exact ⟨has_del_same, fun u hu => by cases hu⟩
  · rw [upd_other f _ h, has_del_other (kl_ne h)]
    exact ⟨(hf y hy).1, fun u hu z => by rw [atKey_del_other (kl_ne h)]; exact (hf y hy).2 u hu z⟩
/-- 'delete(m, k)'. -/
theorem wp_delete (K : Keyed P k) (hk : P.underlying k = some (.int .i64)) (ht : P.underlying t = some (.map k e)) (hown : IntMap P k w b n f s)
    (hg : o.guard = none) (m x : Operand) (hop : o.op = Op.call { callee := Callee.builtin Builtin.delete, args := #[m, x], argTypes := #[t, k] }) (hm : a.eval m = .map (some b)) (y : Int) (hx : a.eval x = .int .i64 y) (hy : I64 y)
    (hK : ∀ w', IntMap P k w' b n (upd f y none) (s - (if (f y).isSome then 1 else 0)) → w.grownBy w' (some b) → wpList P ops Q rest (a.put o.dst (.tuple #[])) w') : wpList P ops Q (o :: rest) a w := by
  obtain ⟨D, hD, hs, hf⟩ := hown
  refine wpList_delete_own w hg m x t k hop e K ht RV b n D hm hD (.int .i64 y) (kl y) hx (keyOf_int_mk hk hy) (fun w' h1 h2 => hK w' ?_ h2.grown)
  obtain ⟨g1, g2⟩ := IntMap.del D (hD.tidy K) hf y hy
  exact ⟨_, h1, by rw [g1, hs], g2⟩
/-- The run of 'len(m)', for operations under a guard. -/
theorem run_len (ht : P.underlying t = some (.map k e)) (hown : IntMap P k w b n f s) (ty : TypeId) : (Builtin.len_ #[t] ty #[.map (some b)]).run P w = .ok (.int .i64 (s : Int)) w := by
  obtain ⟨D, hD, rfl, hf⟩ := hown
  exact hD.len ht ty
/-- 'len(m)'. -/
theorem wp_len (ht : P.underlying t = some (.map k e)) (hown : IntMap P k w b n f s) (hg : o.guard = none) (m : Operand) (hop : o.op = Op.call { callee := Callee.builtin Builtin.len, args := #[m], argTypes := #[t] }) (hm : a.eval m = .map (some b))
    (hK : wpList P ops Q rest (a.put o.dst (.int .i64 (s : Int))) w) : wpList P ops Q (o :: rest) a w := by
  obtain ⟨D, hD, rfl, hf⟩ := hown
  exact wpList_len_own w hg m t hop k e ht RV b n D hm hD hK
end
end Go.Proofs.Ytfimakplmkbbjaa.Mp
