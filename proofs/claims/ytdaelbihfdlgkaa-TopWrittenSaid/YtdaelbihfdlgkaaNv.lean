/- What limbs are worth: plain laws. -/
import Derived.Test.YtdaelbihfdlgkaaNa
set_option linter.unusedVariables false
namespace Go.Proofs.Ytdaelbihfdlgkaa.Nv
def B : Int := 18446744073709551616
def V : List Int → Int
  | [] => 0
  | x :: xs => x + B * V xs
def Lim (xs : List Int) : Prop := ∀ x ∈ xs, 0 ≤ x ∧ x < B
def Rt (xs : List Int) : Prop := ∀ x, xs.getLast? = some x → x ≠ 0
theorem Lim.nil : Lim [] := fun x h => by cases h
theorem Lim.tail {x : Int} {xs : List Int} (h : Lim (x :: xs)) : Lim xs := fun y hy => h y (List.mem_cons_of_mem _ hy)
theorem Lim.head {x : Int} {xs : List Int} (h : Lim (x :: xs)) : 0 ≤ x ∧ x < B := h x (List.mem_cons_self ..)
theorem Lim.cons {x : Int} {xs : List Int} (h : 0 ≤ x ∧ x < B) (t : Lim xs) : Lim (x :: xs) := fun y hy => by
  rcases List.mem_cons.1 hy with e | e
  · rw [e]; exact h
  · exact t y e
theorem Lim.append {xs ys : List Int} (h : Lim xs) (k : Lim ys) : Lim (xs ++ ys) := fun y hy => (List.mem_append.1 hy).elim (h y) (k y)
theorem Lim.take {xs : List Int} (h : Lim xs) (n : Nat) : Lim (xs.take n) := fun y hy => h y (List.mem_of_mem_take hy)
theorem Lim.drop {xs : List Int} (h : Lim xs) (n : Nat) : Lim (xs.drop n) := fun y hy => h y (List.mem_of_mem_drop hy)
theorem Lim.set {xs : List Int} (h : Lim xs) (n : Nat) {v : Int} (hv : 0 ≤ v ∧ v < B) : Lim (xs.set n v) := fun y hy => by
  rcases List.mem_or_eq_of_mem_set hy with e | e
  · exact h y e
  · rw [e]; exact hv
theorem Lim.zeros (n : Nat) : Lim (List.replicate n 0) := fun y hy => by rw [(List.mem_replicate.1 hy).2]; unfold B; omega
theorem B_pos : 0 < B := by unfold B; omega
theorem pow_pos (n : Nat) : 0 < B ^ n := Int.pow_pos B_pos
theorem V_nonneg : ∀ {xs : List Int}, Lim xs → 0 ≤ V xs
  | [], _ => Int.le_refl _
  | x :: xs, h => by
    have h1 := V_nonneg h.tail
    have h2 := h.head
    have h3 : 0 ≤ B * V xs := Int.mul_nonneg (Int.le_of_lt B_pos) h1
    show 0 ≤ x + B * V xs
    omega
theorem V_lt : ∀ {xs : List Int}, Lim xs → V xs < B ^ xs.length
  | [], _ => by show (0 : Int) < B ^ 0; rw [Int.pow_zero]; omega
  | x :: xs, h => by
    have h1 := V_lt h.tail
    have h2 := h.head
    have h3 : B * (V xs + 1) ≤ B * B ^ xs.length := Int.mul_le_mul_of_nonneg_left (by omega) (Int.le_of_lt B_pos)
    show x + B * V xs < B ^ (xs.length + 1)
    rw [Int.pow_succ, Int.mul_comm (B ^ xs.length) B]
    rw [Int.mul_add] at h3
    omega
theorem V_append : ∀ (xs ys : List Int), V (xs ++ ys) = V xs + B ^ xs.length * V ys
  | [], ys => by show V ys = 0 + B ^ 0 * V ys; rw [Int.pow_zero]; omega
  | x :: xs, ys => by
    show x + B * V (xs ++ ys) = x + B * V xs + B ^ (xs.length + 1) * V ys
    rw [V_append xs ys, Int.pow_succ]
    grind
theorem V_snoc (xs : List Int) (x : Int) : V (xs ++ [x]) = V xs + B ^ xs.length * x := by
  rw [V_append]
  show _ + _ * (x + B * 0) = _
  grind
theorem V_zeros : ∀ n : Nat, V (List.replicate n 0) = 0
  | 0 => rfl
  | n + 1 => by show 0 + B * V (List.replicate n 0) = 0; rw [V_zeros n]; omega
theorem V_inj : ∀ {xs ys : List Int}, xs.length = ys.length → Lim xs → Lim ys → V xs = V ys → xs = ys
  | [], [], _, _, _, _ => rfl
  | x :: xs, y :: ys, hl, hx, hy, h => by
    have h1 := hx.head
    have h2 := hy.head
    have h0 : x + B * V xs = y + B * V ys := h
    have h3 : x = y := by
      have e1 : (x + B * V xs) % B = x := by rw [Int.add_mul_emod_self_left, Int.emod_eq_of_lt h1.1 h1.2]
      have e2 : (y + B * V ys) % B = y := by rw [Int.add_mul_emod_self_left, Int.emod_eq_of_lt h2.1 h2.2]
      rw [← e1, ← e2, h0]
    have h4 : V xs = V ys := by
      have : B * V xs = B * V ys := by omega
      exact Int.eq_of_mul_eq_mul_left (Int.ne_of_gt B_pos) this
    rw [h3, V_inj (Nat.succ.inj hl) hx.tail hy.tail h4]
theorem V_ge {xs : List Int} (hl : Lim xs) (hr : Rt xs) (hn : xs ≠ []) : B ^ (xs.length - 1) ≤ V xs := by
  have e := List.dropLast_concat_getLast hn
  have hne : xs.getLast hn ≠ 0 := hr _ (List.getLast?_eq_some_getLast hn)
  have h0 := hl _ (List.getLast_mem hn)
  have hd : Lim xs.dropLast := fun y hy => hl y (List.dropLast_subset _ hy)
  have h1 := V_nonneg hd
  rw [← e, V_snoc, List.length_append, List.length_dropLast]
  have h2 : B ^ (xs.length - 1) * 1 ≤ B ^ (xs.length - 1) * xs.getLast hn := Int.mul_le_mul_of_nonneg_left (by omega) (Int.le_of_lt (pow_pos _))
  simp
  rw [Int.mul_one] at h2
  omega
theorem pow_mono {m n : Nat} (h : m ≤ n) : B ^ m ≤ B ^ n := by
  obtain ⟨k, rfl⟩ : ∃ k, n = m + k := ⟨n - m, by omega⟩
  rw [Int.pow_add]
  have : B ^ m * 1 ≤ B ^ m * B ^ k := Int.mul_le_mul_of_nonneg_left (by have := pow_pos k; omega) (Int.le_of_lt (pow_pos _))
  omega
theorem Rt.len_le {xs ys : List Int} (hx : Lim xs) (hy : Lim ys) (rx : Rt xs) (h : V xs ≤ V ys) : xs.length ≤ ys.length := by
  rcases Nat.lt_or_ge ys.length xs.length with hlt | hge
  · exfalso
    have hn : xs ≠ [] := by intro e; rw [e] at hlt; simp at hlt
    have h1 := V_ge hx rx hn
    have h2 := V_lt hy
    have h3 := pow_mono (show ys.length ≤ xs.length - 1 by omega)
    omega
  · exact hge
/-- A number's limbs are one. -/
theorem Rt.inj {xs ys : List Int} (hx : Lim xs) (hy : Lim ys) (rx : Rt xs) (ry : Rt ys) (h : V xs = V ys) : xs = ys :=
  V_inj (Nat.le_antisymm (Rt.len_le hx hy rx (by omega)) (Rt.len_le hy hx ry (by omega))) hx hy h

theorem V_take_succ {xs : List Int} {i : Nat} (h : i < xs.length) : V (xs.take (i + 1)) = V (xs.take i) + B ^ i * xs[i] := by
  rw [List.take_succ_eq_append_getElem h, V_snoc, List.length_take, Nat.min_eq_left (by omega)]
theorem take_over {xs : List Int} {i : Nat} (h : xs.length ≤ i) : xs.take (i + 1) = xs.take i := by
  rw [List.take_of_length_le (by omega), List.take_of_length_le h]
theorem set_zeros (r : List Int) (m : Nat) (v : Int) : (r ++ List.replicate (m + 1) 0).set r.length v = r ++ [v] ++ List.replicate m 0 := by
  rw [List.set_append_right _ _ (Nat.le_refl _), Nat.sub_self, List.replicate_succ, List.set_cons_zero, List.append_assoc]
  rfl
theorem V_pad (r : List Int) (m : Nat) : V (r ++ List.replicate m 0) = V r := by
  rw [V_append, V_zeros]; omega
/-- A sum under way. -/
structure SumI (X Y : List Int) (i : Nat) (o : List Int) (cy : Int) : Prop where
  r : ∃ r, o = r ++ List.replicate (X.length + 1 - i) 0 ∧ r.length = i ∧ Lim r ∧ V r + cy * B ^ i = V (X.take i) + V (Y.take i)
  c : 0 ≤ cy ∧ cy ≤ 1
  hi : i ≤ X.length
theorem SumI.start (X Y : List Int) : SumI X Y 0 (List.replicate (X.length + 1) 0) 0 :=
  ⟨⟨[], rfl, rfl, Lim.nil, by rw [List.take_zero, List.take_zero]; show (0 : Int) + 0 * B ^ 0 = 0 + 0; rfl⟩, by omega, Nat.zero_le _⟩
theorem SumI.len {X Y o : List Int} {i : Nat} {cy : Int} (h : SumI X Y i o cy) : o.length = X.length + 1 := by
  obtain ⟨r, e, hl, _, _⟩ := h.r
  have := h.hi
  rw [e, List.length_append, List.length_replicate]; omega
def at0 (ys : List Int) (i : Nat) : Int := if h : i < ys.length then ys[i] else 0
theorem V_take_at0 (ys : List Int) (i : Nat) : V (ys.take (i + 1)) = V (ys.take i) + B ^ i * at0 ys i := by
  unfold at0
  split
  · rename_i h; exact V_take_succ h
  · rename_i h; rw [take_over (by omega)]; omega
theorem at0_lim {ys : List Int} (h : Lim ys) (i : Nat) : 0 ≤ at0 ys i ∧ at0 ys i < B := by
  unfold at0
  split
  · exact h _ (List.getElem_mem _)
  · unfold B; omega
theorem SumI.step {X Y o : List Int} {i : Nat} {cy : Int} (h : SumI X Y i o cy) (hlt : i < X.length) (lx : Lim X) (ly : Lim Y) :
    SumI X Y (i + 1) (o.set i ((X[i] + at0 Y i + cy) % B)) ((X[i] + at0 Y i + cy) / B) := by
  obtain ⟨r, e, hl, hr, hv⟩ := h.r
  have hx := lx _ (List.getElem_mem hlt)
  have hy := at0_lim ly i
  have hc := h.c
  obtain ⟨t, ht⟩ : ∃ t, t = X[i] + at0 Y i + cy := ⟨_, rfl⟩
  rw [← ht]
  have hB : B = 18446744073709551616 := rfl
  have hd : t = t % B + B * (t / B) := (Int.emod_add_mul_ediv t B).symm
  have hm : 0 ≤ t % B ∧ t % B < B := ⟨Int.emod_nonneg _ (by rw [hB]; omega), Int.emod_lt_of_pos _ B_pos⟩
  refine ⟨⟨r ++ [t % B], ?_, by simp [hl], hr.append (Lim.cons hm Lim.nil), ?_⟩, by rw [hB] at hx hy ⊢; omega, hlt⟩
  · rw [e, show X.length + 1 - i = (X.length + 1 - (i + 1)) + 1 by omega, ← hl, set_zeros]
  · rw [V_snoc, hl, V_take_succ hlt, V_take_at0, Int.pow_succ]
    have e2 : V (X.take i) + B ^ i * X[i] + (V (Y.take i) + B ^ i * at0 Y i) = V r + B ^ i * t := by rw [ht]; grind
    rw [e2]
    conv => rhs; rw [hd]
    grind
theorem SumI.done {X Y o : List Int} {cy : Int} (h : SumI X Y X.length o cy) (hl : Y.length ≤ X.length) : Lim (o.set X.length cy) ∧ V (o.set X.length cy) = V X + V Y ∧ (o.set X.length cy).length = X.length + 1 := by
  obtain ⟨r, e, hr, hm, hv⟩ := h.r
  have hc := h.c
  rw [e, show X.length + 1 - X.length = 0 + 1 by omega, ← hr, set_zeros]
  rw [List.take_of_length_le (Nat.le_refl _), List.take_of_length_le hl] at hv
  refine ⟨?_, ?_, by simp [hr]⟩
  · rw [List.replicate_zero, List.append_nil]
    exact hm.append (Lim.cons (by unfold B; omega) Lim.nil)
  · rw [V_pad, V_snoc, hr, ← hv]
    grind
end Go.Proofs.Ytdaelbihfdlgkaa.Nv
