/- A number's bytes: plain laws. -/
import Derived.Test.YtdaelbihfdlgkaaNu
import Derived.Test.YtdaelbihfdlgkaaNr
namespace Go.Proofs.Ytdaelbihfdlgkaa.Nw
open Go.RowKit Go.Proofs.Ytdaelbihfdlgkaa.Na Go.Proofs.Ytdaelbihfdlgkaa.Nv Go.Proofs.Ytdaelbihfdlgkaa.Np Go.Proofs.Ytdaelbihfdlgkaa.Nq Go.Proofs.Ytdaelbihfdlgkaa.Nr Go.Proofs.Ytdaelbihfdlgkaa.Nu Go.Proofs.Ytdaelbihfdlgkaa.Fns Go.Proofs.YtdaelbihfdlgkaaW.PrintWords Go.Proofs.YtdaelbihfdlgkaaW.PrintLast Go.Proofs.YtdaelbihfdlgkaaW.PrintMore
set_option linter.unusedVariables false
set_option linter.unusedSimpArgs false
/-- Bytes' number, the lowest first. -/
def le : List Int → Int
  | [] => 0
  | c :: cs => c + 256 * le cs
def Bt (cs : List Int) : Prop := ∀ c ∈ cs, 0 ≤ c ∧ c < 256
theorem le_append : ∀ (xs ys : List Int), le (xs ++ ys) = le xs + 256 ^ xs.length * le ys
  | [], ys => by show le ys = 0 + 256 ^ 0 * le ys; rw [Int.pow_zero]; omega
  | x :: xs, ys => by
    show x + 256 * le (xs ++ ys) = x + 256 * le xs + 256 ^ (xs.length + 1) * le ys
    rw [le_append xs ys, Int.pow_succ]
    grind
theorem le_snoc (xs : List Int) (x : Int) : le (xs ++ [x]) = le xs + 256 ^ xs.length * x := by
  rw [le_append]
  show _ + _ * (x + 256 * 0) = _
  grind
theorem le_bounds : ∀ {cs : List Int}, Bt cs → 0 ≤ le cs ∧ le cs < 256 ^ cs.length
  | [], _ => by constructor; exact Int.le_refl _; show (0 : Int) < 256 ^ 0; rw [Int.pow_zero]; omega
  | c :: cs, h => by
    have h1 := le_bounds (cs := cs) (fun x hx => h x (List.mem_cons_of_mem _ hx))
    have h2 := h c (List.mem_cons_self ..)
    show 0 ≤ c + 256 * le cs ∧ c + 256 * le cs < 256 ^ (cs.length + 1)
    rw [Int.pow_succ]
    generalize (256 : Int) ^ cs.length = X at *
    omega
theorem B256 : (256 : Int) ^ 8 = B := by unfold B; decide
theorem pow256 (j r : Nat) : (256 : Int) ^ (8 * j + r) = B ^ j * 256 ^ r := by
  rw [Int.pow_add, Int.pow_mul, B256]
theorem ediv2 (x : Int) {y : Int} (z : Int) (hy : 0 < y) : x / (y * z) = x / y / z := by
  rw [Int.ediv_ediv, if_neg (by omega), Int.sub_zero]
/-- A byte of a number. -/
theorem byte_at {a : List Int} (la : Lim a) {i : Nat} (hi : i / 8 < a.length) : (V a / 256 ^ i) % 256 = (a[i / 8] / 256 ^ (i % 8)) % 256 := by
  obtain ⟨j, hj⟩ : ∃ j, j = i / 8 := ⟨_, rfl⟩
  obtain ⟨r, hr⟩ : ∃ r, r = i % 8 := ⟨_, rfl⟩
  have e : i = 8 * j + r := by omega
  have hr8 : r < 8 := by omega
  have hja : j < a.length := by omega
  have hx : a[i / 8] = a[j] := by congr 1; exact hj.symm
  rw [hx, ← hr, e, pow256, V_split a j (by omega), drop_cons hja, ediv2 _ _ (pow_pos j), Int.add_mul_ediv_left _ _ (Int.ne_of_gt (pow_pos j))]
  have h1 := V_lt (la.take j)
  rw [List.length_take, Nat.min_eq_left (by omega)] at h1
  rw [Int.ediv_eq_zero_of_lt (V_nonneg (la.take j)) h1, Int.zero_add]
  show ((a[j] + B * V (a.drop (j + 1))) / 256 ^ r) % 256 = _
  have e2 : B = 256 ^ r * (256 ^ (7 - r) * 256) := by
    rw [← Int.pow_succ, ← Int.pow_add, show r + (7 - r + 1) = 8 by omega]
    exact B256.symm
  have hp : (256 : Int) ^ r ≠ 0 := Int.ne_of_gt (Int.pow_pos (by omega))
  rw [e2, Int.mul_assoc, Int.add_mul_ediv_left _ _ hp, show (256 : Int) ^ (7 - r) * 256 * V (a.drop (j + 1)) = 256 * (256 ^ (7 - r) * V (a.drop (j + 1))) by grind, Int.add_mul_emod_self_left]
theorem shr_byte {x : Int} {r : Nat} (hr : r < 8) : shr .u64 x ((8 * r : Nat) : Int) % 256 = (x / 256 ^ r) % 256 := by
  unfold shr
  rw [Int.toNat_natCast, show min (8 * r) IntKind.u64.bits = 8 * r from Nat.min_eq_left (by show 8 * r ≤ 64; omega), Int.pow_mul]
  rfl
theorem w_sub3 {n i : Nat} (h : n ≤ 1000000) (h2 : i < n) : wrap64 ((wrap64 ((n : Int) - 1)) - (i : Int)) = ((n - 1 - i : Nat) : Int) := by unfold wrap64; omega
theorem w_div8 {i : Nat} (h : i ≤ 1000000) : wrap64 (Int.tdiv (i : Int) 8) = ((i / 8 : Nat) : Int) := by
  rw [Int.tdiv_eq_ediv_of_nonneg (by omega)]
  unfold wrap64; omega
theorem w_mod8 {i : Nat} (h : i ≤ 1000000) : wrap64 (8 * (Int.tmod (i : Int) 8)) = ((8 * (i % 8) : Nat) : Int) := by
  rw [Int.tmod_eq_emod_of_nonneg (by omega)]
  unfold wrap64; omega
theorem bytes_step {k i n : Nat} {a o : List Int} {x : Int} (hi : i < n) (hn : n ≤ 1000000) (hia : i / 8 < a.length) (ho : o.length = n) (hx : shr .u64 a[i / 8] ((8 * (i % 8) : Nat) : Int) % 256 = x) :
    nat_Bytes.l0 (k + 1) a (n : Int) o (n : Int) (i : Int) = nat_Bytes.l0 k a (n : Int) (o.set (n - 1 - i) x) (n : Int) ((i + 1 : Nat) : Int) := by
  have p1 : (i : Int) < (n : Int) := by omega
  have p2 : (0 : Int) ≤ ((i / 8 : Nat) : Int) := by omega
  have p3 : ((i / 8 : Nat) : Int) < (a.length : Int) := by omega
  have p4 : (0 : Int) ≤ ((8 * (i % 8) : Nat) : Int) := by omega
  have p5 : (0 : Int) ≤ ((n - 1 - i : Nat) : Int) := by omega
  have p6 : ((n - 1 - i : Nat) : Int) < (o.length : Int) := by omega
  have hw := w_one (m := i) (by omega)
  rw [nat_Bytes.l0, if_pos p1, w_div8 (by omega), if_pos p2, if_pos p3, w_mod8 (by omega), if_pos p4, w_sub3 hn hi, if_pos p5, if_pos p6, rd_nat hia, hx, hw, Int.toNat_natCast]
theorem mod_pow (v : Int) (i : Nat) : v % 256 ^ (i + 1) = v % 256 ^ i + 256 ^ i * ((v / 256 ^ i) % 256) := by
  have hp : (0 : Int) < 256 ^ i := Int.pow_pos (by omega)
  have h1 := Int.emod_add_mul_ediv v (256 ^ i)
  have h2 := Int.emod_add_mul_ediv (v / 256 ^ i) 256
  obtain ⟨A, hA⟩ : ∃ A, A = v % 256 ^ i := ⟨_, rfl⟩
  obtain ⟨C, hC⟩ : ∃ C, C = v / 256 ^ i := ⟨_, rfl⟩
  rw [← hA, ← hC] at h1
  rw [← hC] at h2
  rw [← hA, ← hC]
  have hA1 : 0 ≤ A := by rw [hA]; exact Int.emod_nonneg _ (Int.ne_of_gt hp)
  have hA2 : A < 256 ^ i := by rw [hA]; exact Int.emod_lt_of_pos _ hp
  have hM : 0 ≤ C % 256 ∧ C % 256 < 256 := ⟨by omega, by omega⟩
  have e : v = (A + 256 ^ i * (C % 256)) + 256 ^ (i + 1) * (C / 256) := by
    rw [Int.pow_succ, ← h1]
    conv => lhs; rw [← h2]
    grind
  have hb1 : 0 ≤ 256 ^ i * (C % 256) := Int.mul_nonneg (Int.le_of_lt hp) hM.1
  have hb2 : 256 ^ i * (C % 256 + 1) ≤ 256 ^ i * 256 := Int.mul_le_mul_of_nonneg_left (by omega) (Int.le_of_lt hp)
  rw [Int.mul_add, Int.mul_one] at hb2
  have hs : (256 : Int) ^ (i + 1) = 256 ^ i * 256 := Int.pow_succ ..
  conv => lhs; rw [e]
  rw [Int.add_mul_emod_self_left, Int.emod_eq_of_lt (by omega) (by rw [hs]; omega)]
theorem bytes_l {a : List Int} {n : Nat} (la : Lim a) (hn : n ≤ 100000) (hna : n ≤ 8 * a.length) : ∀ (m i : Nat), i + m = n → ∀ o : List Int, o.length = n → Bt o → le (o.drop (n - i)).reverse = V a % 256 ^ i →
    ∃ k r, nat_Bytes.l0 k a (n : Int) o (n : Int) (i : Int) = some r ∧ r.length = n ∧ Bt r ∧ le r.reverse = V a % 256 ^ n := by
  intro m
  induction m with
  | zero =>
    intro i hi o ho hb hv
    have e : i = n := by omega
    subst e
    rw [Nat.sub_self, List.drop_zero] at hv
    have p1 : ¬ (i : Int) < (i : Int) := by omega
    exact ⟨1, o, by rw [nat_Bytes.l0, if_neg p1], ho, hb, hv⟩
  | succ m ih =>
    intro i hi o ho hb hv
    have hia : i / 8 < a.length := by omega
    obtain ⟨x, hx⟩ : ∃ x, x = (a[i / 8] / 256 ^ (i % 8)) % 256 := ⟨_, rfl⟩
    have hx2 : 0 ≤ x ∧ x < 256 := by rw [hx]; omega
    have hp : n - 1 - i < o.length := by omega
    obtain ⟨k, r, h1, h2⟩ := ih (i + 1) (by omega) (o.set (n - 1 - i) x) (by rw [List.length_set]; exact ho) (by
      intro y hy
      rcases List.mem_or_eq_of_mem_set hy with e | e
      · exact hb y e
      · rw [e]; exact hx2) (by
      rw [mod_pow, byte_at la hia, ← hx, ← hv, show n - (i + 1) = n - 1 - i by omega, drop_cons (by rw [List.length_set]; exact hp), List.getElem_set_self, List.drop_set_of_lt (by omega), List.reverse_cons, le_snoc, show n - 1 - i + 1 = n - i by omega, List.length_reverse, List.length_drop, show o.length - (n - i) = i by omega])
    exact ⟨k + 1, r, by rw [bytes_step (by omega) (by omega) hia ho ((shr_byte (by omega)).trans hx.symm)]; exact h1, h2⟩
theorem V_top {a : List Int} {L : Nat} (la : Lim a) (h0 : 0 < a.length) (hL : a[a.length - 1] < 2 ^ L) : V a < B ^ (a.length - 1) * 2 ^ L := by
  have hl : a.length - 1 < a.length := by omega
  have e := V_split a (a.length - 1) (by omega)
  rw [drop_cons hl, show a.length - 1 + 1 = a.length by omega, List.drop_of_length_le (Nat.le_refl _)] at e
  have e2 : V [a[a.length - 1]] = a[a.length - 1] := by show a[a.length - 1] + B * 0 = _; omega
  rw [e2] at e
  have h1 := V_lt (la.take (a.length - 1))
  rw [List.length_take, Nat.min_eq_left (by omega)] at h1
  have h2 : B ^ (a.length - 1) * (a[a.length - 1] + 1) ≤ B ^ (a.length - 1) * 2 ^ L := Int.mul_le_mul_of_nonneg_left (by omega) (Int.le_of_lt (pow_pos _))
  rw [Int.mul_add, Int.mul_one] at h2
  omega
theorem len64_ok {x : Int} (h : 0 < x ∧ x < B) : ∃ L : Nat, bits_Len64.f x = some (L : Int) ∧ 0 < L ∧ L ≤ 64 ∧ x < 2 ^ L := by
  have hB : B = 18446744073709551616 := rfl
  rw [hB] at h
  obtain ⟨h1, h2⟩ := Ne.bitLen_bounds x.toNat (by omega)
  obtain ⟨h3, h4⟩ := h2 (by omega)
  refine ⟨Lib.bitLen x.toNat, ?_, h4, ?_, ?_⟩
  · unfold bits_Len64.f
    rw [if_pos ⟨by omega, by omega⟩]
  · rcases Nat.lt_or_ge 64 (Lib.bitLen x.toNat) with hg | hg
    · exfalso
      have := Nat.pow_le_pow_right (show 0 < 2 by omega) (show 64 ≤ Lib.bitLen x.toNat - 1 by omega)
      omega
    · exact hg
  · have : ((x.toNat : Nat) : Int) < ((2 ^ Lib.bitLen x.toNat : Nat) : Int) := by omega
    rw [Int.toNat_of_nonneg (by omega)] at this
    push_cast at this
    exact this
theorem bytes_ok {a : List Int} (la : Lim a) (ra : Rt a) (h0 : 0 < a.length) (hl : a.length ≤ 64) :
    ∃ k r, nat_Bytes.f k a = some r ∧ Bt r ∧ le r.reverse = V a ∧ r.length ≤ 8 * a.length := by
  have hlt : a.length - 1 < a.length := by omega
  have hx := la _ (List.getElem_mem hlt)
  have hne : a[a.length - 1] ≠ 0 := ra _ (by rw [List.getLast?_eq_getElem?, List.getElem?_eq_getElem])
  obtain ⟨L, e1, e2, e3, e4⟩ := len64_ok (x := a[a.length - 1]) (by omega)
  have p1 : ¬ (a.length : Int) = 0 := by omega
  have p2 : (0 : Int) ≤ ((a.length - 1 : Nat) : Int) := by omega
  have p3 : ((a.length - 1 : Nat) : Int) < (a.length : Int) := by omega
  have hw : wrap64 ((a.length : Int) - 1) = ((a.length - 1 : Nat) : Int) := by rw [w_pred (by omega)]; omega
  have hbits : nat_Bits.f a = some ((64 * (a.length - 1) + L : Nat) : Int) := by
    rw [nat_Bits.f, right_ok ra h0 hl, Option.bind_some, if_pos rfl, if_neg p1, hw, if_pos p2, if_pos p3, rd_nat hlt, e1, Option.bind_some]
    congr 1
    unfold wrap64
    clear hw e4 e1 hx hne
    omega
  obtain ⟨n, hn⟩ : ∃ n, n = (64 * (a.length - 1) + L + 7) / 8 := ⟨_, rfl⟩
  have hwn : wrap64 (Int.tdiv (wrap64 (((64 * (a.length - 1) + L : Nat) : Int) + 7)) 8) = (n : Int) := by
    have e5 : wrap64 (((64 * (a.length - 1) + L : Nat) : Int) + 7) = ((64 * (a.length - 1) + L + 7 : Nat) : Int) := by unfold wrap64; clear hw e4 e1 hx hne hbits; omega
    rw [e5, w_div8 (by omega), hn]
  obtain ⟨k, r, h1, h2, h3, h4⟩ := bytes_l (n := n) la (by omega) (by omega) n 0 (by omega) (List.replicate n 0) (by simp) (fun c hc => by rw [(List.mem_replicate.1 hc).2]; omega) (by rw [Nat.sub_zero, List.drop_of_length_le (by simp), Int.pow_zero, Int.emod_one]; rfl)
  refine ⟨k, r, ?_, h3, ?_, by omega⟩
  · have q1 : (0 : Int) ≤ (n : Int) := by omega
    have q2 : n ≤ 281474976710656 := by omega
    rw [nat_Bytes.f, right_ok ra h0 hl, Option.bind_some, if_pos rfl, hbits, Option.bind_some, hwn, if_pos q1, Int.toNat_natCast, if_pos q2]
    exact h1
  · rw [h4]
    refine Int.emod_eq_of_lt (V_nonneg la) ?_
    have t1 := V_top la h0 e4
    have t2 : B ^ (a.length - 1) * 2 ^ L ≤ 256 ^ n := by
      have t3 : B ^ (a.length - 1) * 2 ^ L = 2 ^ (64 * (a.length - 1) + L) := by rw [Int.pow_add, Int.pow_mul]; rfl
      have t4 : (256 : Int) ^ n = 2 ^ (8 * n) := by rw [Int.pow_mul]; rfl
      rw [t3, t4]
      have := Nat.pow_le_pow_right (show 0 < 2 by omega) (show 64 * (a.length - 1) + L ≤ 8 * n by omega)
      exact_mod_cast this
    exact Int.lt_of_lt_of_le t1 t2
end Go.Proofs.Ytdaelbihfdlgkaa.Nw
