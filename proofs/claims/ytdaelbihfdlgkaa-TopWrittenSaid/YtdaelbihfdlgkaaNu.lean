/- A number's text: plain laws. -/
import Derived.Test.YtdaelbihfdlgkaaNq
namespace Go.Proofs.Ytdaelbihfdlgkaa.Nu
open Go.RowKit Go.Proofs.Ytdaelbihfdlgkaa.Na Go.Proofs.Ytdaelbihfdlgkaa.Nv Go.Proofs.Ytdaelbihfdlgkaa.Np Go.Proofs.Ytdaelbihfdlgkaa.Nq Go.Proofs.Ytdaelbihfdlgkaa.Fns Go.Proofs.YtdaelbihfdlgkaaW.PrintWords Go.Proofs.YtdaelbihfdlgkaaW.PrintLast Go.Proofs.YtdaelbihfdlgkaaW.PrintMore
set_option linter.unusedVariables false
set_option linter.unusedSimpArgs false
theorem lift {α : Type} {F : Nat → Option α} (hm : ∀ k, LeO (F k) (F (k + 1))) {k : Nat} {r : α} (h : F k = some r) : ∀ n, F (k + n) = some r
  | 0 => h
  | n + 1 => hm (k + n) r (lift hm h n)
/-! ### turned round -/
theorem set_mid (L R : List Int) (x v : Int) : (L ++ x :: R).set L.length v = L ++ v :: R := by
  rw [List.set_append_right _ _ (Nat.le_refl _), Nat.sub_self, List.set_cons_zero]
theorem rd_mid (L R : List Int) (x : Int) : rd (L ++ x :: R) (L.length : Int) = x := by
  rw [rd_nat (by simp)]
  simp
theorem rev_step {k : Nat} {L M R : List Int} {x y : Int} (hs : (L ++ x :: (M ++ y :: R)).length ≤ 100000) :
    slices_Reverse_byte_byte.l0 (k + 1) (L ++ x :: (M ++ y :: R)) (L.length : Int) ((L.length + 1 + M.length : Nat) : Int) = slices_Reverse_byte_byte.l0 k ((L ++ [y]) ++ (M ++ x :: R)) ((L ++ [y]).length : Int) ((L.length + M.length : Nat) : Int) := by
  have hlen : (L ++ x :: (M ++ y :: R)).length = L.length + 1 + M.length + 1 + R.length := by simp; omega
  have p1 : (L.length : Int) < ((L.length + 1 + M.length : Nat) : Int) := by omega
  have p2 : (0 : Int) ≤ ((L.length + 1 + M.length : Nat) : Int) := by omega
  have p3 : ((L.length + 1 + M.length : Nat) : Int) < ((L ++ x :: (M ++ y :: R)).length : Int) := by omega
  have p4 : (0 : Int) ≤ (L.length : Int) := by omega
  have p5 : (L.length : Int) < ((L ++ x :: (M ++ y :: R)).length : Int) := by omega
  have e1 : rd (L ++ x :: (M ++ y :: R)) ((L.length + 1 + M.length : Nat) : Int) = y := by
    have := rd_mid (L ++ x :: M) R y
    rw [show (L ++ x :: M).length = L.length + 1 + M.length by simp; omega, List.append_assoc] at this
    exact this
  have e2 : rd (L ++ x :: (M ++ y :: R)) (L.length : Int) = x := rd_mid _ _ _
  have e3 : ((L ++ x :: (M ++ y :: R)).set L.length y).set (L.length + 1 + M.length) x = (L ++ [y]) ++ (M ++ x :: R) := by
    rw [set_mid]
    have := set_mid (L ++ y :: M) R y x
    rw [show (L ++ y :: M).length = L.length + 1 + M.length by simp; omega, List.append_assoc] at this
    rw [show L ++ y :: (M ++ y :: R) = L ++ (y :: M ++ y :: R) from rfl, this]
    simp
  have hw := w_one (m := L.length) (by omega)
  have hw2 := w_pred (m := L.length + 1 + M.length) (by omega)
  rw [slices_Reverse_byte_byte.l0, if_pos p1, if_pos p2, if_pos p3, if_pos p4, if_pos p5, e1, e2, Int.toNat_natCast, Int.toNat_natCast, e3, hw, hw2]
  congr 1
  · simp
  · omega
theorem rev_l : ∀ (n : Nat) (M L R : List Int), M.length ≤ n → (L ++ (M ++ R)).length ≤ 100000 → ∃ k, slices_Reverse_byte_byte.l0 k (L ++ (M ++ R)) (L.length : Int) ((L.length : Int) + (M.length : Int) - 1) = some (L ++ (M.reverse ++ R)) := by
  intro n
  induction n with
  | zero =>
    intro M L R hM _
    have : M = [] := List.eq_nil_of_length_eq_zero (by omega)
    subst this
    refine ⟨1, ?_⟩
    have p : ¬ (L.length : Int) < (L.length : Int) + (([] : List Int).length : Int) - 1 := by simp; omega
    rw [slices_Reverse_byte_byte.l0, if_neg p]
    rfl
  | succ n ih =>
    intro M L R hM hs
    match M, hM, hs with
    | [], hM, hs => exact ih [] L R (by simp) hs
    | x :: M2, hM, hs =>
      rcases List.eq_nil_or_concat M2 with e | ⟨M', y, e⟩
      · subst e
        refine ⟨1, ?_⟩
        have p : ¬ (L.length : Int) < (L.length : Int) + (([x] : List Int).length : Int) - 1 := by simp
        rw [slices_Reverse_byte_byte.l0, if_neg p]
        rfl
      · rw [List.concat_eq_append] at e
        subst e
        have hs2 : (L ++ x :: (M' ++ y :: R)).length ≤ 100000 := by simp at hs ⊢; omega
        obtain ⟨k, hk⟩ := ih M' (L ++ [y]) (x :: R) (by simp at hM; omega) (by simp at hs ⊢; omega)
        refine ⟨k + 1, ?_⟩
        have e1 : L ++ ((x :: (M' ++ [y])) ++ R) = L ++ x :: (M' ++ y :: R) := by simp
        have e2 : (L.length : Int) + ((x :: (M' ++ [y])).length : Int) - 1 = ((L.length + 1 + M'.length : Nat) : Int) := by simp; omega
        rw [e1, e2, rev_step hs2]
        have e3 : ((L ++ [y]).length : Int) + (M'.length : Int) - 1 = ((L.length + M'.length : Nat) : Int) := by simp; omega
        rw [e3] at hk
        rw [hk]
        simp
theorem rev_ok (xs : List Int) (hs : xs.length ≤ 100000) : ∃ k, slices_Reverse_byte_byte.f k xs = some xs.reverse := by
  obtain ⟨k, h⟩ := rev_l xs.length xs [] [] (Nat.le_refl _) (by simpa using hs)
  refine ⟨k, ?_⟩
  rw [slices_Reverse_byte_byte.f, w_pred (by omega)]
  simpa using h
/-! ### digits -/
def dec : List Int → Int
  | [] => 0
  | c :: cs => (c - 48) + 10 * dec cs
def Dg (cs : List Int) : Prop := ∀ c ∈ cs, 48 ≤ c ∧ c ≤ 57
def LD (cs : List Int) : Prop := ∀ c, cs.getLast? = some c → c ≠ 48
theorem dec_snoc : ∀ (cs : List Int) (c : Int), dec (cs ++ [c]) = dec cs + 10 ^ cs.length * (c - 48)
  | [], c => by show (c - 48) + 10 * 0 = 0 + 10 ^ 0 * (c - 48); rw [Int.pow_zero]; omega
  | x :: cs, c => by
    show (x - 48) + 10 * dec (cs ++ [c]) = (x - 48) + 10 * dec cs + 10 ^ (cs.length + 1) * (c - 48)
    rw [dec_snoc cs c, Int.pow_succ]
    grind
theorem dec_nonneg : ∀ {cs : List Int}, Dg cs → 0 ≤ dec cs
  | [], _ => Int.le_refl _
  | c :: cs, h => by
    have h1 := dec_nonneg (cs := cs) (fun x hx => h x (List.mem_cons_of_mem _ hx))
    have h2 := h c (List.mem_cons_self ..)
    show 0 ≤ (c - 48) + 10 * dec cs
    omega
theorem dec_ge {cs : List Int} (h : Dg cs) (hl : LD cs) (hn : cs ≠ []) : 10 ^ (cs.length - 1) ≤ dec cs := by
  have e := List.dropLast_concat_getLast hn
  have hne : cs.getLast hn ≠ 48 := hl _ (List.getLast?_eq_some_getLast hn)
  have h0 := h _ (List.getLast_mem hn)
  have hd : Dg cs.dropLast := fun y hy => h y (List.dropLast_subset _ hy)
  have h1 := dec_nonneg hd
  have h2 : (10 : Int) ^ (cs.length - 1) * 1 ≤ 10 ^ (cs.length - 1) * (cs.getLast hn - 48) := Int.mul_le_mul_of_nonneg_left (by omega) (Int.le_of_lt (Int.pow_pos (by omega)))
  rw [← e, dec_snoc, List.length_append, List.length_dropLast]
  simp only [List.length_singleton, Nat.add_sub_cancel]
  rw [Int.mul_one] at h2
  omega
theorem Dg.snoc {cs : List Int} {c : Int} (h : Dg cs) (hc : 48 ≤ c ∧ c ≤ 57) : Dg (cs ++ [c]) := fun y hy => by
  rcases List.mem_append.1 hy with e | e
  · exact h y e
  · rw [List.mem_singleton.1 e]; exact hc
theorem LD.snoc {cs : List Int} {c : Int} (hc : c ≠ 48) : LD (cs ++ [c]) := fun y hy => by
  rw [List.getLast?_append, List.getLast?_singleton, Option.some_or] at hy
  cases hy
  exact hc
theorem p10 {m n : Nat} (h : m ≤ n) : (10 : Int) ^ m ≤ 10 ^ n := by
  have h1 := Nat.pow_le_pow_right (show 0 < 10 by omega) h
  have h2 : ∀ n : Nat, (10 : Int) ^ n = ((10 ^ n : Nat) : Int) := fun n => (Int.natCast_pow 10 n).symm
  rw [h2, h2]
  exact Int.ofNat_le.2 h1
theorem ten_lt {n : Nat} {X : Int} (h1 : 10 ^ n ≤ X) (h2 : X < 10 ^ 600) : n < 600 := by
  rcases Nat.lt_or_ge n 600 with h | h
  · exact h
  · exfalso
    have h3 : (10 : Int) ^ 600 ≤ 10 ^ n := p10 h
    generalize (10 : Int) ^ 600 = Y at *
    omega
theorem V_pos {a : List Int} (la : Lim a) (ra : Rt a) (h : 0 < a.length) : 0 < V a := by
  have h1 := V_ge la ra (by intro e; rw [e] at h; simp at h)
  have h2 := pow_pos (a.length - 1)
  omega
theorem text_step {k i : Nat} {q out : List Int} {rest : Int} (hi : i < 19) (hgo : rest > 0 ∨ 0 < q.length) (hlen : out.length < 1000000) (hr : 0 ≤ rest ∧ rest < B) :
    nat_Text.l1 (k + 1) q out rest (i : Int) = nat_Text.l1 k q (out ++ [48 + rest % 10]) (rest / 10) ((i + 1 : Nat) : Int) := by
  have hB : B = 18446744073709551616 := rfl
  have p1 : (i : Int) < 19 := by omega
  have p2 : out.length < 140737488355328 := by omega
  have e1 : (48 + Int.tmod rest 10) % 256 = 48 + rest % 10 := by rw [Int.tmod_eq_emod_of_nonneg hr.1]; omega
  have e2 : IntKind.u64.wrap (Int.tdiv rest 10) = rest / 10 := by
    rw [Int.tdiv_eq_ediv_of_nonneg hr.1]
    exact wrapB (by omega) (by rw [hB] at hr ⊢; omega)
  have hw := w_one (m := i) (by omega)
  by_cases h0 : rest > 0
  · rw [nat_Text.l1, if_pos p1, if_pos h0, if_pos p2, e1, e2, hw]
  · have p3 : (q.length : Int) > 0 := by omega
    rw [nat_Text.l1, if_pos p1, if_neg h0, if_pos p3, if_pos p2, e1, e2, hw]
theorem text_l1 {q : List Int} {V0 : Int} {P : ByteArray → Prop} (lq : Lim q) (rq : Rt q) (hV : V0 < 10 ^ 600)
    (next : ∀ out, Dg out → dec out + 10 ^ out.length * V q = V0 → (V q = 0 → LD out) → ∃ k r, nat_Text.l0 k q out = some r ∧ P r) :
    ∀ (m i : Nat), i + m = 19 → ∀ (out : List Int) (rest : Int), Dg out → 0 ≤ rest ∧ rest < 10 ^ m → dec out + 10 ^ out.length * (rest + 10 ^ m * V q) = V0 → (rest = 0 → V q = 0 → LD out) →
      ∃ k r, nat_Text.l1 k q out rest (i : Int) = some r ∧ P r := by
  intro m
  induction m with
  | zero =>
    intro i hi out rest hd hr hv hl
    rw [Int.pow_zero] at hr hv
    have hr0 : rest = 0 := by omega
    rw [hr0, Int.one_mul, Int.zero_add] at hv
    obtain ⟨k, r, h1, h2⟩ := next out hd hv (hl hr0)
    refine ⟨k + 1, r, ?_, h2⟩
    have p : ¬ (i : Int) < 19 := by omega
    rw [nat_Text.l1, if_neg p]
    exact h1
  | succ m ih =>
    intro i hi out rest hd hr hv hl
    by_cases hgo : rest > 0 ∨ 0 < q.length
    · have hpos : 1 ≤ rest + 10 ^ (m + 1) * V q := by
        have hVn := V_nonneg lq
        have h10 : (0 : Int) < 10 ^ (m + 1) := Int.pow_pos (by omega)
        rcases hgo with h | h
        · have := Int.mul_nonneg (Int.le_of_lt h10) hVn
          omega
        · have hp := V_pos lq rq h
          have := Int.mul_pos h10 hp
          omega
      have hlen : out.length < 600 := by
        refine ten_lt (X := V0) ?_ hV
        have h3 : (10 : Int) ^ out.length * 1 ≤ 10 ^ out.length * (rest + 10 ^ (m + 1) * V q) := Int.mul_le_mul_of_nonneg_left hpos (Int.le_of_lt (Int.pow_pos (by omega)))
        have := dec_nonneg hd
        rw [Int.mul_one] at h3
        omega
      have hrB : rest < B := by
        have : (10 : Int) ^ (m + 1) ≤ 10 ^ 19 := by
          have := Nat.pow_le_pow_right (show 0 < 10 by omega) (show m + 1 ≤ 19 by omega)
          exact_mod_cast this
        have hB : (10 : Int) ^ 19 < B := by unfold B; decide
        omega
      have hdm := Int.emod_add_mul_ediv rest 10
      have hlt10 : rest / 10 < 10 ^ m := by
        have := hr.2
        rw [Int.pow_succ] at this
        omega
      obtain ⟨k, r, h1, h2⟩ := ih (i + 1) (by omega) (out ++ [48 + rest % 10]) (rest / 10) (hd.snoc (by omega)) ⟨by omega, hlt10⟩ (by
        rw [dec_snoc, List.length_append, List.length_singleton, Int.pow_succ, ← hv, Int.pow_succ]
        generalize (10 : Int) ^ out.length = P10 at *
        generalize (10 : Int) ^ m = Q10 at *
        generalize hE : rest % 10 = e1 at *
        generalize hE2 : rest / 10 = e2 at *
        subst hdm
        grind) (by
        intro h3 h4
        have hr0 : rest > 0 := by
          rcases hgo with h | h
          · exact h
          · have := V_pos lq rq h; omega
        exact LD.snoc (by omega))
      exact ⟨k + 1, r, by rw [text_step (by omega) hgo (by omega) ⟨hr.1, hrB⟩]; exact h1, h2⟩
    · have hr0 : rest = 0 := by omega
      have hq0 : q = [] := List.eq_nil_of_length_eq_zero (by omega)
      have hVq : V q = 0 := by rw [hq0]; rfl
      rw [hr0, hVq, Int.mul_zero, Int.zero_add, Int.mul_zero, Int.add_zero] at hv
      obtain ⟨k, r, h1, h2⟩ := next out hd (by rw [hVq, Int.mul_zero, Int.add_zero]; exact hv) (fun h => hl hr0 h)
      refine ⟨k + 1, r, ?_, h2⟩
      have p : (i : Int) < 19 := by omega
      have p2 : ¬ rest > 0 := by omega
      have p3 : ¬ (q.length : Int) > 0 := by omega
      rw [nat_Text.l1, if_pos p, if_neg p2, if_neg p3]
      exact h1
theorem text_l0 {V0 : Int} (hV : V0 < 10 ^ 600) (hV0 : 0 < V0) : ∀ (n : Nat) (a out : List Int), V a < (n : Int) → Lim a → Rt a → a.length ≤ 64 → Dg out → dec out + 10 ^ out.length * V a = V0 → (V a = 0 → LD out) →
    ∃ k r, nat_Text.l0 k a out = some r ∧ ∃ ds, r = strOfNums ds.reverse ∧ Dg ds ∧ dec ds = V0 ∧ LD ds ∧ ds ≠ [] := by
  intro n
  induction n with
  | zero =>
    intro a out h la
    have := V_nonneg la
    omega
  | succ n ih =>
    intro a out hn la ra hl hd hv hld
    by_cases h0 : 0 < a.length
    · have hp := V_pos la ra h0
      obtain ⟨k1, q, s, e1, e2, e3, e4, e5, e6⟩ := short_ok (d := 10000000000000000000) la (by unfold B; omega) (by omega)
      have hqn : V q < (n : Int) := by
        have := V_nonneg e2
        omega
      have e7 : (10 : Int) ^ 19 = 10000000000000000000 := by decide
      obtain ⟨k2, r, h1, h2⟩ := text_l1 (P := fun r => ∃ ds, r = strOfNums ds.reverse ∧ Dg ds ∧ dec ds = V0 ∧ LD ds ∧ ds ≠ []) e2 e3 hV (fun out' d1 d2 d3 => ih q out' hqn e2 e3 (by omega) d1 d2 d3) 19 0 rfl out s hd (by rw [e7]; exact e5) (by
        rw [e7, ← hv, e6]
        generalize (10 : Int) ^ out.length = P10
        grind) (by
        intro hs0 hq0
        rw [hs0, hq0] at e6
        omega)
      refine ⟨k1 + k2 + 1, r, ?_, h2⟩
      have p : (a.length : Int) > 0 := by omega
      have l1 := lift (F := fun k => nat_short.f k a 10000000000000000000) (fun k => nat_short.mono _ _ k) e1 k2
      have l2 := lift (F := fun k => nat_Text.l1 k q out s 0) (fun k => (nat_Text.mono_l k).2 _ _ _ _) h1 k1
      rw [nat_Text.l0, if_pos p]
      show ((nat_short.f (k1 + k2) a 10000000000000000000).bind _) = _
      rw [show nat_short.f (k1 + k2) a 10000000000000000000 = some (q, s) from l1, Option.bind_some, Nat.add_comm k1 k2]
      exact l2
    · have ha : a = [] := List.eq_nil_of_length_eq_zero (by omega)
      subst ha
      rw [show V [] = 0 from rfl, Int.mul_zero, Int.add_zero] at hv
      have hne : out ≠ [] := by
        intro e
        rw [e] at hv
        have : dec [] = 0 := rfl
        omega
      have hlo : out.length < 1000 := by
        have h3 := dec_ge hd (hld rfl) hne
        have := ten_lt (n := out.length - 1) (X := V0) (by rw [← hv]; exact h3) hV
        omega
      obtain ⟨k, hk⟩ := rev_ok out (by omega)
      refine ⟨k + 1, _, ?_, out, rfl, hd, hv, hld rfl, hne⟩
      have p : ¬ ((([] : List Int).length : Int) > 0) := by simp
      have p2 : ¬ ((out.length : Int) = 0) := by
        have : 0 < out.length := List.length_pos_iff.2 hne
        omega
      rw [nat_Text.l0, if_neg p, if_neg p2, hk, Option.bind_some]
theorem right_ok {a : List Int} (ra : Rt a) (h0 : 0 < a.length) (hl : a.length ≤ 64) : nat_Right.f a = some true := by
  have p1 : (a.length : Int) ≤ 64 := by omega
  have p2 : ¬ (a.length : Int) = 0 := by omega
  have p3 : (0 : Int) ≤ ((a.length - 1 : Nat) : Int) := by omega
  have p4 : ((a.length - 1 : Nat) : Int) < (a.length : Int) := by omega
  have hw : wrap64 ((a.length : Int) - 1) = ((a.length - 1 : Nat) : Int) := by rw [w_pred (by omega)]; omega
  rw [nat_Right.f, if_pos p1, if_neg p2, hw, if_pos p3, if_pos p4, rd_nat (by omega : a.length - 1 < a.length)]
  congr 1
  refine bne_iff_ne.2 (ra _ ?_)
  rw [List.getLast?_eq_getElem?, List.getElem?_eq_getElem]
theorem B20 : ∀ n : Nat, B ^ n ≤ (10 ^ 20) ^ n
  | 0 => Int.le_refl _
  | n + 1 => by
    have h1 := B20 n
    have h0 : B ≤ 10 ^ 20 := by unfold B; decide
    have h2 : B ^ n * B ≤ (10 ^ 20) ^ n * 10 ^ 20 := Int.mul_le_mul h1 h0 (Int.le_of_lt B_pos) (Int.le_of_lt (Int.pow_pos (Int.pow_pos (by omega))))
    rw [Int.pow_succ, Int.pow_succ]
    exact h2
theorem B30 : B ^ 30 ≤ 10 ^ 600 := by
  have h := B20 30
  rw [← Int.pow_mul] at h
  exact h
theorem text_ok {a : List Int} (la : Lim a) (ra : Rt a) (h0 : 0 < a.length) (hl : a.length ≤ 30) :
    ∃ k ds, nat_Text.f k a = some (strOfNums ds.reverse) ∧ Dg ds ∧ dec ds = V a ∧ LD ds ∧ ds ≠ [] ∧ ds.length ≤ 600 := by
  have hV : V a < 10 ^ 600 := by
    have h1 := V_lt la
    have h2 := pow_mono hl
    have h3 := B30
    generalize (10 : Int) ^ 600 = X at *
    generalize B ^ 30 = Y at *
    omega
  have hp := V_pos la ra h0
  obtain ⟨k, r, h1, ds, rfl, h2, h3, h4, h5⟩ := text_l0 hV hp (V a).toNat.succ a [] (by omega) la ra (by omega) (fun x h => by cases h) (by show 0 + 10 ^ 0 * V a = V a; rw [Int.pow_zero]; omega) (fun h => by omega)
  refine ⟨k, ds, ?_, h2, h3, h4, h5, ?_⟩
  · rw [nat_Text.f, right_ok ra h0 (by omega), Option.bind_some, if_pos rfl]
    exact h1
  · have h6 := dec_ge h2 h4 h5
    have := ten_lt (n := ds.length - 1) (X := V a) (by rw [← h3]; exact h6) hV
    omega
end Go.Proofs.Ytdaelbihfdlgkaa.Nu
