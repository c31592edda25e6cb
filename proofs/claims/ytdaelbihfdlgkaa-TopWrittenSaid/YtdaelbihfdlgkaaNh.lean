/- The product of short numbers; the whole product around its halves. -/
import Derived.Test.YtdaelbihfdlgkaaNc
import Derived.Test.YtdaelbihfdlgkaaWTab
import Derived.Deep.RegionWith
import Derived.Outline
namespace Go.Proofs.Ytdaelbihfdlgkaa.Nh
open Go.RowKit Go.Proofs.Ytdaelbihfdlgkaa.Na Go.Proofs.Ytdaelbihfdlgkaa.Nv Go.Proofs.Ytdaelbihfdlgkaa.Ns Go.Proofs.Ytdaelbihfdlgkaa.Nt Go.Proofs.Ytdaelbihfdlgkaa.Np Go.Proofs.Ytdaelbihfdlgkaa.Nq Go.Proofs.Ytdaelbihfdlgkaa.No Go.Proofs.Ytdaelbihfdlgkaa.Nc Go.Proofs.Ytdaelbihfdlgkaa.Fns Go.Proofs.YtdaelbihfdlgkaaW.PrintWords Go.Proofs.YtdaelbihfdlgkaaW.PrintLast Go.Proofs.YtdaelbihfdlgkaaW.PrintMore
set_option linter.unusedVariables false
set_option linter.unusedSimpArgs false
variable {A0 A1 : Option Addr} {c0 c1 : Nat} {a b : List Int}
/-- What a product answers. -/
def Pd (a b : List Int) (r : List Int) : Prop := Rt r ∧ V r = V a * V b ∧ r.length ≤ a.length + b.length
set_option maxRecDepth 100000 in
theorem halves_small {g : Nat} (w : World) (ha : Rd w A0 c0 a) (hb : Rd w A1 c1 b) (hs : a.length < 24 ∨ b.length < 24) (h1 : a.length + b.length ≤ 100000) :
    Calls Try.prog 32 #[.slice A0 a.length c0, .slice A1 b.length c1, .pointer (some ⟨g, 0, none⟩)] w (Out w (Pd a b)) := by
  have HS := Aside0.mk (school_rd w ha hb h1)
  clear ha hb
  obtain ⟨n, hn⟩ : ∃ n, n = a.length := ⟨_, rfl⟩
  obtain ⟨m, hm⟩ : ∃ m, m = b.length := ⟨_, rfl⟩
  rw [← hn, ← hm] at HS hs ⊢
  have HN := Aside0.mk (And.intro hn hm)
  clear hn hm h1
  by_cases h : n < 24
  · have d1 : decide ((n : Int) < 24) = true := decide_eq_true (by omega)
    have d2 : decide (n < 24) = true := decide_eq_true h
    clear hs h
    go_enter Try.func32, Try.ntmps32
    go_wp2_with fail
    refine HS.out.mono ?_
    rintro e w1 ⟨A, c, r, rfl, i1, i2, i3⟩
    have HQ := Aside0.mk (And.intro i1 (And.intro i2 i3))
    clear i1 i2 i3
    go_wp2_with fail
    go_ret
    exact ⟨A, c, r, rfl, HQ.out.1, HQ.out.2.1, by unfold Pd; rw [← HN.out.1, ← HN.out.2]; exact HQ.out.2.2⟩
  · have d1 : decide ((n : Int) < 24) = false := decide_eq_false (by omega)
    have d2 : decide (n < 24) = false := decide_eq_false h
    have d3 : decide ((m : Int) < 24) = true := decide_eq_true (by omega)
    have d4 : decide (m < 24) = true := decide_eq_true (by omega)
    clear hs h
    go_enter Try.func32, Try.ntmps32
    go_wp2_with fail
    refine HS.out.mono ?_
    rintro e w1 ⟨A, c, r, rfl, i1, i2, i3⟩
    have HQ := Aside0.mk (And.intro i1 (And.intro i2 i3))
    clear i1 i2 i3
    go_wp2_with fail
    go_ret
    exact ⟨A, c, r, rfl, HQ.out.1, HQ.out.2.1, by unfold Pd; rw [← HN.out.1, ← HN.out.2]; exact HQ.out.2.2⟩
theorem half_len {n m h : Nat} (hs : n ≤ 1000 ∧ m ≤ 1000) (hh : h = (max n m + 1) / 2) : wrap64 (Int.tdiv (wrap64 (((max n m : Nat) : Int) + 1)) 2) = (h : Int) := by
  have e : wrap64 (((max n m : Nat) : Int) + 1) = ((max n m + 1 : Nat) : Int) := by unfold wrap64; omega
  rw [e, Int.tdiv_eq_ediv_of_nonneg (by omega), hh]
  unfold wrap64; omega
/-- What stands while the halves are taken: the block of the variable n is w's next one. -/
def Bx (w : World) (g h : Nat) (W : World) : Prop := Below w.heap.size w W ∧ W.cell? ⟨g, 0, none⟩ = some (.func (.func 32) #[] #[.pointer (some ⟨g, 0, none⟩)]) ∧ W.cell? ⟨w.heap.size, 0, none⟩ = some (.int .i64 (h : Int))
section
variable {w W W' : World} {g h : Nat} {A : Option Addr} {c : Nat} {xs : List Int}
theorem Bx.step (hx : Bx w g h W) (hb : Below W.heap.size W W') : Bx w g h W' :=
  ⟨hx.1.trans (hb.mono hx.1.size), (hb.cell (World.block_lt_of_cell? W _ hx.2.1)).trans hx.2.1, (hb.cell (World.block_lt_of_cell? W _ hx.2.2)).trans hx.2.2⟩
/-- The low half. -/
def Lw (xs : List Int) (h : Nat) (ys : List Int) : Prop := V ys = V (xs.take h) ∧ Rt ys ∧ ys.length ≤ (xs.take h).length
theorem Bx.low (hx : Bx w g h W) (hr : Rd w A c xs) (hn : xs.length ≤ 100000) : Calls Try.prog 34 #[.slice A xs.length c, .pointer (some ⟨w.heap.size, 0, none⟩)] W fun e w' => ∃ ys, e = .returned (.slice A ys.length c) ∧ w' = W ∧ Rd W A c ys ∧ Lw xs h ys :=
  low_calls W (hr.below hx.1) hn hx.2.2
theorem Bx.high (hx : Bx w g h W) (hr : Rd w A c xs) (hn : xs.length ≤ 100000) : Calls Try.prog 35 #[.slice A xs.length c, .pointer (some ⟨w.heap.size, 0, none⟩)] W fun e w' => ∃ A' c', e = .returned (.slice A' (xs.drop h).length c') ∧ w' = W ∧ Rd W A' c' (xs.drop h) :=
  high_calls W (hr.below hx.1) hn hx.2.2
end
theorem bx_start {w : World} {g : Nat} (hg : w.cell? ⟨g, 0, none⟩ = some (.func (.func 32) #[] #[.pointer (some ⟨g, 0, none⟩)])) (hl : g < w.heap.size) (h : Nat) : Bx w g h (w.alloc (.cells #[.int .i64 (h : Int)] 3)).drew :=
  ⟨below_drew (below_alloc (Below.refl _ w) _), ((below_alloc (Below.refl _ w) _).cell hl).trans hg, cell_of_row (w.alloc _) w.heap.size 0 _ _ _ (MapKept.heap_alloc w _).1⟩
section
variable {n m h : Nat} {a b la lb : List Int}
def Hn (a b : List Int) (n m h : Nat) : Prop := (n = a.length ∧ m = b.length) ∧ h = (max n m + 1) / 2 ∧ (24 ≤ n ∧ n ≤ 40) ∧ (24 ≤ m ∧ m ≤ 40)
theorem Hn.lowa (H : Hn a b n m h) (h1 : Lw a h la) : la.length ≤ 20 := by
  have h3 := h1.2.2
  rw [List.length_take] at h3
  unfold Hn at H
  omega
theorem Hn.lowb (H : Hn a b n m h) (h1 : Lw b h lb) : lb.length ≤ 20 := by
  have h3 := h1.2.2
  rw [List.length_take] at h3
  unfold Hn at H
  omega
theorem Hn.higha (H : Hn a b n m h) : (a.drop h).length ≤ 20 := by
  rw [List.length_drop]
  unfold Hn at H
  omega
theorem Hn.highb (H : Hn a b n m h) : (b.drop h).length ≤ 20 := by
  rw [List.length_drop]
  unfold Hn at H
  omega
end
theorem sum_half {a la sa ta : List Int} {h : Nat} (h1 : Lw a h la) (h2 : V sa = V la + V (a.drop h) ∧ sa.length = max la.length (a.drop h).length + 1) (h3 : V ta = V sa) (h4 : ta.length ≤ sa.length) (h5 : la.length ≤ 20) (h6 : (a.drop h).length ≤ 20) :
    V ta = V (a.take h) + V (a.drop h) ∧ ta.length ≤ 21 := ⟨by rw [h3, h2.1, h1.1], by omega⟩
/-- A call of a func value in a region. -/
theorem vgoes_ {P : Program} {ops : Array Oper} {Q : Exit → Act → World → Prop} {oi : Oper} {N : Option Tmp} {a : Act} {w : World} {K : Act → World → Prop} {f : FuncId} {fn : Func} {ags : Array Operand} {ts : Array TypeId} {x : Operand} {cp : Array Value} (hf : P.funcs[f]? = some fn) (hname : (fn.name == "runtime.NumGoroutine") = false) (hb : fn.body.isSome = true) (args : Array Value)
    (hw : Region.wanted oi (yielded ops a.tmps) = true) (hN : oi.dst = N) (hop : oi.op = .call { callee := .value x, args := ags, argTypes := ts }) (hx : a.eval x = .func (.func f) #[] cp) (hargs : ags.map a.eval ++ cp = args)
    (h : Calls P f args w fun e w' => ∃ v, e = .returned v ∧ K (a.put N v) w') : if Region.wanted oi (yielded ops a.tmps) = true then Oper.wp P oi a w K Q else K (a.put N undef) w := by
  refine call_ f args hw hN ?_ h
  have he := enters_ hf hname hb args w
  unfold execOp
  simp [hop, resolve, Deferred.ofValue, invoke, hx, hargs, he]
/-- Adding into a row of one's own. -/
theorem into_rd {t : Nat} {v : Value} {o : List Int} {A : Option Addr} {c : Nat} {a : List Int} (u w : World) (hB : Below u.heap.size u w) (ho : Kd.R (Kd.int .u64) 36 w u.heap.size (fun _ => True) v o) (lo : Lim o) (hr : Rd u A c a)
    (hN : o.length ≤ 100000) (hfit : t + a.length ≤ o.length) (hv0 : V o + V a * B ^ t < B ^ o.length) :
    Calls Try.prog 38 #[v, .slice A a.length c, .int .i64 (t : Int)] w fun e w' => ∃ r, e = .returned (.tuple #[]) ∧ Kd.R (Kd.int .u64) 36 w' u.heap.size (fun _ => True) v r ∧ Below u.heap.size u w' ∧ Lim r ∧ r.length = o.length ∧ V r = V o + V a * B ^ t := by
  obtain ⟨k, r, h1, h2, h3, h4⟩ := into_ok hr.l lo hN hfit hv0
  refine (nat_into.calls k (fun k => u.heap.size ≤ k) v o A c a (t : Int) r u w hB (Kd.R_mono (Kd.R_bound ho) (fun _ hk => hk.2.1)) (Kd.C_kept_came (Kd.heap_int .u64) hr.r hB (fun _ hk => hk)) hr.c h1).mono ?_
  rintro e w' ⟨rfl, i1, i2, _⟩
  exact ⟨r, rfl, Kd.R_mono i1 (fun _ _ => trivial), i2, h3, h2, h4⟩
/-! ### the halves' plain law -/
theorem V_parts (xs : List Int) (h : Nat) : V xs = V (xs.take h) + B ^ h * V (xs.drop h) := by
  rcases Nat.lt_or_ge xs.length h with hl | hl
  · rw [List.take_of_length_le (by omega), List.drop_of_length_le (by omega)]
    show V xs = V xs + B ^ h * 0
    omega
  · exact V_split xs h hl
structure Hv (x0 x1 y0 y1 P Q M : Int) : Prop where
  p : P = x0 * y0
  q : Q = x1 * y1
  m : M = (x0 + x1) * (y0 + y1)
  a : 0 ≤ x0 ∧ 0 ≤ x1
  b : 0 ≤ y0 ∧ 0 ≤ y1
section
variable {x0 x1 y0 y1 P Q M : Int}
theorem Hv.l1 (h : Hv x0 x1 y0 y1 P Q M) : 0 ≤ P ∧ 0 ≤ Q ∧ P ≤ M ∧ Q ≤ M - P := by
  have h1 := Int.mul_nonneg h.a.1 h.b.1
  have h2 := Int.mul_nonneg h.a.1 h.b.2
  have h3 := Int.mul_nonneg h.a.2 h.b.1
  have h4 := Int.mul_nonneg h.a.2 h.b.2
  have e : M = x0 * y0 + x0 * y1 + x1 * y0 + x1 * y1 := by rw [h.m]; grind
  rw [h.p, h.q, e]
  omega
theorem Hv.sum (h : Hv x0 x1 y0 y1 P Q M) (T : Int) : P + (M - P - Q) * T + Q * (T * T) = (x0 + T * x1) * (y0 + T * y1) := by
  rw [h.p, h.q, h.m]; grind
end
theorem hv_of {a b p q mm : List Int} {h : Nat} (la : Lim a) (lb : Lim b) (e1 : V p = V (a.take h) * V (b.take h)) (e2 : V q = V (a.drop h) * V (b.drop h)) (e3 : V mm = (V (a.take h) + V (a.drop h)) * (V (b.take h) + V (b.drop h))) :
    Hv (V (a.take h)) (V (a.drop h)) (V (b.take h)) (V (b.drop h)) (V p) (V q) (V mm) :=
  ⟨e1, e2, e3, ⟨V_nonneg (la.take h), V_nonneg (la.drop h)⟩, ⟨V_nonneg (lb.take h), V_nonneg (lb.drop h)⟩⟩
/-- A number that is not too great fits. -/
theorem fits {m : List Int} (lm : Lim m) (rm : Rt m) {t N : Nat} {X : Int} (h : V m * B ^ t ≤ X) (hX : X < B ^ N) (ht : t ≤ N) : t + m.length ≤ N := by
  rcases Nat.eq_zero_or_pos m.length with h0 | h0
  · omega
  · have h1 := V_ge lm rm (by intro e; rw [e] at h0; simp at h0)
    rcases Nat.lt_or_ge N (t + m.length) with h2 | h2
    · exfalso
      have h3 := pow_mono (show N ≤ (m.length - 1) + t by omega)
      rw [Int.pow_add] at h3
      have h4 : B ^ (m.length - 1) * B ^ t ≤ V m * B ^ t := Int.mul_le_mul_of_nonneg_right h1 (Int.le_of_lt (pow_pos t))
      omega
    · exact h2
section
variable {n m h N t2 : Nat} {a b p q mm o0 t8 : List Int}
theorem copied {w : World} {base : Nat} {v : Value} (ho : Kd.R (Kd.int .u64) 36 w base (fun _ => True) v (p.take (min p.length (List.replicate (N : Int).toNat (0 : Int)).length) ++ (List.replicate (N : Int).toNat (0 : Int)).drop (min p.length (List.replicate (N : Int).toNat (0 : Int)).length))) (hp : p.length ≤ 40) (hN : N = n + m + 1) (H : Hn a b n m h) :
    Kd.R (Kd.int .u64) 36 w base (fun _ => True) v (p ++ List.replicate (N - p.length) (0 : Int)) := by
  have e : min p.length N = p.length := by unfold Hn at H; omega
  rw [Int.toNat_natCast, List.length_replicate, e, List.take_of_length_le (Nat.le_refl _), List.drop_replicate] at ho
  exact ho
theorem start_sum (lp : Lim p) (hp : p.length ≤ 40) (hN : N = n + m + 1) (H : Hn a b n m h) (e : o0 = p ++ List.replicate (N - p.length) 0) : Lim o0 ∧ o0.length = N ∧ V o0 = V p := by
  subst e
  refine ⟨lp.append (Lim.zeros _), ?_, V_pad _ _⟩
  rw [List.length_append, List.length_replicate]
  unfold Hn at H
  omega
/-- What all fits into. -/
def Al (a b : List Int) (h N : Nat) : Prop := N ≤ 1000 ∧ 2 * h ≤ N ∧ V a * V b < B ^ N ∧ V a = V (a.take h) + B ^ h * V (a.drop h) ∧ V b = V (b.take h) + B ^ h * V (b.drop h)
theorem mul_lt {x y : Int} {i j : Nat} (hx : 0 ≤ x ∧ x < B ^ i) (hy : 0 ≤ y ∧ y < B ^ j) : x * y < B ^ (i + j) := by
  have h1 : x * y ≤ x * B ^ j := Int.mul_le_mul_of_nonneg_left (by omega) hx.1
  have h2 : (x + 1) * B ^ j ≤ B ^ i * B ^ j := Int.mul_le_mul_of_nonneg_right (by omega) (Int.le_of_lt (pow_pos j))
  have h3 := pow_pos j
  rw [Int.pow_add]
  rw [Int.add_mul, Int.one_mul] at h2
  omega
theorem prod_lt (la : Lim a) (lb : Lim b) : V a * V b < B ^ (a.length + b.length) := mul_lt ⟨V_nonneg la, V_lt la⟩ ⟨V_nonneg lb, V_lt lb⟩
theorem all_sum (la : Lim a) (lb : Lim b) (hv : Hv (V (a.take h)) (V (a.drop h)) (V (b.take h)) (V (b.drop h)) (V p) (V q) (V mm)) (hN : N = n + m + 1) (H : Hn a b n m h) : Al a b h N := by
  unfold Hn at H
  refine ⟨by omega, by omega, ?_, V_parts a h, V_parts b h⟩
  have h1 := prod_lt la lb
  have h2 := pow_mono (show a.length + b.length ≤ N by omega)
  exact Int.lt_of_lt_of_le h1 h2
theorem into1x (hv : Hv (V (a.take h)) (V (a.drop h)) (V (b.take h)) (V (b.drop h)) (V p) (V q) (V mm)) (hA : Al a b h N) : V p + (V mm - V p - V q) * B ^ h + V q * B ^ (2 * h) = V a * V b := by
  have e : B ^ (2 * h) = B ^ h * B ^ h := by rw [show 2 * h = h + h by omega, Int.pow_add]
  rw [e, hA.2.2.2.1, hA.2.2.2.2]
  exact hv.sum (B ^ h)
theorem into_nn (hv : Hv (V (a.take h)) (V (a.drop h)) (V (b.take h)) (V (b.drop h)) (V p) (V q) (V mm)) : 0 ≤ V p ∧ 0 ≤ (V mm - V p - V q) * B ^ h ∧ 0 ≤ V q * B ^ (2 * h) := by
  have h1 := hv.l1
  exact ⟨h1.1, Int.mul_nonneg (by omega) (Int.le_of_lt (pow_pos h)), Int.mul_nonneg h1.2.1 (Int.le_of_lt (pow_pos _))⟩
end
section
variable {n m h N t2 : Nat} {a b p q mm o0 t8 : List Int}
theorem into1 (l : Lim t8) (r : Rt t8) (e : V t8 = V mm - V p - V q) (hv : Hv (V (a.take h)) (V (a.drop h)) (V (b.take h)) (V (b.drop h)) (V p) (V q) (V mm)) (hA : Al a b h N) : h + t8.length ≤ N := by
  have h1 := into1x hv hA
  have h2 := into_nn hv
  refine fits l r (X := V a * V b) ?_ hA.2.2.1 (by have := hA.2.1; omega)
  rw [e]; omega
theorem into1v (e : V t8 = V mm - V p - V q) (e2 : V o0 = V p) (hv : Hv (V (a.take h)) (V (a.drop h)) (V (b.take h)) (V (b.drop h)) (V p) (V q) (V mm)) (hA : Al a b h N) : V o0 + V t8 * B ^ h < B ^ N := by
  have h1 := into1x hv hA
  have h2 := into_nn hv
  have h3 := hA.2.2.1
  rw [e, e2]; omega
theorem into2 (l : Lim q) (r : Rt q) (hv : Hv (V (a.take h)) (V (a.drop h)) (V (b.take h)) (V (b.drop h)) (V p) (V q) (V mm)) (hA : Al a b h N) (ht : t2 = 2 * h) : t2 + q.length ≤ N := by
  have h1 := into1x hv hA
  have h2 := into_nn hv
  subst ht
  exact fits l r (X := V a * V b) (by omega) hA.2.2.1 hA.2.1
theorem into2v (hv : Hv (V (a.take h)) (V (a.drop h)) (V (b.take h)) (V (b.drop h)) (V p) (V q) (V mm)) (hA : Al a b h N) (ht : t2 = 2 * h) : V p + (V mm - V p - V q) * B ^ h + V q * B ^ t2 < B ^ N := by
  subst ht
  rw [into1x hv hA]
  exact hA.2.2.1
theorem into2e (hv : Hv (V (a.take h)) (V (a.drop h)) (V (b.take h)) (V (b.drop h)) (V p) (V q) (V mm)) (ht : t2 = 2 * h) : V p + (V mm - V p - V q) * B ^ h + V q * B ^ t2 = V a * V b := by
  subst ht
  have e : B ^ (2 * h) = B ^ h * B ^ h := by rw [show 2 * h = h + h by omega, Int.pow_add]
  rw [e, V_parts a h, V_parts b h]
  exact hv.sum (B ^ h)
theorem prod_len {r : List Int} (la : Lim a) (lb : Lim b) (lr : Lim r) (rr : Rt r) (e : V r = V a * V b) : r.length ≤ a.length + b.length :=
  rt_len lr rr (by rw [e]; exact prod_lt la lb)
end
end Go.Proofs.Ytdaelbihfdlgkaa.Nh
