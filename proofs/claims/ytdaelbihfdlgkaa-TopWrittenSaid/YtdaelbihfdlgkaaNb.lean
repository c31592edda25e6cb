/- A number out of bytes. -/
import Derived.Test.YtdaelbihfdlgkaaNo
import Derived.Test.YtdaelbihfdlgkaaNw
import Derived.Outline
namespace Go.Proofs.Ytdaelbihfdlgkaa.Nb
open Go.RowKit Go.Proofs.Ytdaelbihfdlgkaa.Na Go.Proofs.Ytdaelbihfdlgkaa.Nv Go.Proofs.Ytdaelbihfdlgkaa.Ns Go.Proofs.Ytdaelbihfdlgkaa.Nt Go.Proofs.Ytdaelbihfdlgkaa.Np Go.Proofs.Ytdaelbihfdlgkaa.Nq Go.Proofs.Ytdaelbihfdlgkaa.Nw Go.Proofs.Ytdaelbihfdlgkaa.No Go.Proofs.Ytdaelbihfdlgkaa.Fns Go.Proofs.YtdaelbihfdlgkaaW.PrintWords Go.Proofs.YtdaelbihfdlgkaaW.PrintLast Go.Proofs.YtdaelbihfdlgkaaW.PrintMore
set_option linter.unusedVariables false
set_option linter.unusedSimpArgs false
theorem read1_calls (x : Int) (w : World) : Calls Try.prog 19 #[.int .u8 x] w fun e w' => e = .returned (.bool (x != 0)) ∧ w = w' := by
  go_enter Try.func19, Try.ntmps19
  go_wp2_with fail
  go_ret
  exact ⟨rfl, rfl⟩
theorem read1_enter (args : Array Value) (w : World) : (callFunc 19 args).run Try.prog w = .ok (.enter 19 args) w := enters_ Try.func19 (by kernel_rfl) rfl args w
set_option maxHeartbeats 400000 in
/-- The first byte that is not 0. -/
theorem index_calls {A : Option Addr} {c : Nat} {l : List Int} (w : World) (hr : Kd.C (Kd.int .u8) w A l.length l) (hl : l.length ≤ 1000000) :
    Calls Try.prog 18 #[.slice A l.length c, .func (.func 19) #[] #[]] w fun e w' => ∃ i : Int, e = .returned (.int .i64 i) ∧ w = w' ∧ ((i = -1 ∧ ∀ x ∈ l, x = 0) ∨ ∃ k : Nat, i = (k : Int) ∧ k < l.length ∧ ∀ x ∈ l.take k, x = 0) := by
  have HR := Aside0.mk hr
  clear hr
  go_enter Try.func18, Try.ntmps18
  go_wp2_with fail
  go_loop [5, 8] (fun v5 v8 => ∃ i : Nat, i ≤ l.length ∧ v8 = .int .i64 (i : Int) ∧ Aside0 (∀ x ∈ l.take i, x = 0)) (fun _ v8 => l.length - (intOf v8).toNat)
  case atStart => exact ⟨0, by omega, rfl, ⟨fun x h => by simp at h⟩⟩
  case round =>
    obtain ⟨i, hi, rfl, HT⟩ := hrel
    by_cases hlt : (i : Int) < (l.length : Int)
    · obtain ⟨ad, rfl, hc⟩ := Kd.at_int HR.out (i : Int) (by omega) hlt
      rw [Int.toNat_natCast] at hc
      have hen := read1_enter
      have hd : l.take (i + 1) = l.take i ++ [rd l (i : Int)] := by
        rw [List.take_succ_eq_append_getElem (by omega)]
        congr 2
        simp [rd, show i < l.length by omega]
      obtain ⟨x, hx⟩ : ∃ x, x = rd l (i : Int) := ⟨_, rfl⟩
      rw [← hx] at hc hd
      have HD := Aside0.mk hd
      clear hx hd
      go_wp2_with fail
      refine (read1_calls x _).mono ?_
      rintro e w1 ⟨rfl, rfl⟩
      cases hpx : (x != 0) with
      | true =>
        have HX := Aside0.mk hpx
        clear hpx hen
        go_wp2_with fail
        go_ret
        exact ⟨(i : Int), rfl, rfl, .inr ⟨i, rfl, by omega, HT.out⟩⟩
      | false =>
        have HX := Aside0.mk hpx
        clear hpx hen
        go_wp2_with fail
        go_round
        case rel => exact ⟨i + 1, by omega, by go_num, ⟨fun y hy => by
          rw [HD.out] at hy
          rcases List.mem_append.1 hy with h | h
          · exact HT.out y h
          · rw [List.mem_singleton.1 h]; exact bne_eq_false_iff_eq.1 HX.out⟩⟩
        case measure => simp [intOf]; omega
    · have hie : i = l.length := by omega
      have HE := Aside0.mk hie
      clear hie
      go_wp2_with fail
      go_ret
      exact ⟨-1, rfl, rfl, .inl ⟨rfl, by have h := HT.out; rw [HE.out, List.take_length] at h; exact h⟩⟩
theorem or_comm64 (x y : Int) : bits .or .u64 x y = bits .or .u64 y x := by
  show IntKind.u64.wrap ((BitVec.ofInt 64 x ||| BitVec.ofInt 64 y).toNat : Nat) = IntKind.u64.wrap ((BitVec.ofInt 64 y ||| BitVec.ofInt 64 x).toNat : Nat)
  rw [BitVec.or_comm]
theorem limb_lt {o : List Int} (lo : Lim o) {j : Nat} (hj : j < o.length) {T : Int} (h : V o < B ^ j * T) : o[j] < T := by
  rw [V_split o j (by omega), drop_cons hj] at h
  have h1 := V_nonneg (lo.take j)
  have h2 : V (o[j] :: o.drop (j + 1)) = o[j] + B * V (o.drop (j + 1)) := rfl
  have h3 : 0 ≤ B * V (o.drop (j + 1)) := Int.mul_nonneg (Int.le_of_lt B_pos) (V_nonneg (lo.drop (j + 1)))
  rcases Int.lt_or_le o[j] T with h4 | h4
  · exact h4
  · exfalso
    have h5 : B ^ j * T ≤ B ^ j * V (o[j] :: o.drop (j + 1)) := Int.mul_le_mul_of_nonneg_left (by omega) (Int.le_of_lt (pow_pos j))
    omega
theorem p256 {m n : Nat} (h : m ≤ n) : (256 : Int) ^ m ≤ 256 ^ n := by
  have h1 := Nat.pow_le_pow_right (show 0 < 256 by omega) h
  have h2 : ∀ n : Nat, (256 : Int) ^ n = ((256 ^ n : Nat) : Int) := fun n => (Int.natCast_pow 256 n).symm
  rw [h2, h2]
  exact Int.ofNat_le.2 h1
theorem read_step {o b : List Int} {i : Nat} (lo : Lim o) (hb : Bt b) (hi : i < b.length) (ho : b.length ≤ 8 * o.length) (hv : V o = le (b.drop (b.length - i)).reverse) :
    ∃ y v, IntKind.u64.wrap (b[b.length - 1 - i] * 2 ^ (8 * (i % 8))) = y ∧ bits .or .u64 (o[i / 8]'(by omega)) y = v ∧ (0 ≤ v ∧ v < B) ∧ V (o.set (i / 8) v) = le (b.drop (b.length - (i + 1))).reverse := by
  obtain ⟨j, hj⟩ : ∃ j, j = i / 8 := ⟨_, rfl⟩
  obtain ⟨r, hr⟩ : ∃ r, r = i % 8 := ⟨_, rfl⟩
  have e : i = 8 * j + r := by omega
  have hr8 : r < 8 := by omega
  have hjo : j < o.length := by omega
  have hx := hb _ (List.getElem_mem (show b.length - 1 - i < b.length by omega))
  obtain ⟨x, hxe⟩ : ∃ x, x = b[b.length - 1 - i] := ⟨_, rfl⟩
  rw [← hxe] at hx
  have e256 : (256 : Int) ^ r = 2 ^ (8 * r) := by rw [Int.pow_mul]; rfl
  have hbd := (le_bounds (cs := (b.drop (b.length - i)).reverse) (fun c hc => hb c (List.mem_of_mem_drop (List.mem_reverse.1 hc)))).2
  rw [List.length_reverse, List.length_drop, show b.length - (b.length - i) = i by omega, ← hv] at hbd
  have hbd2 : V o < B ^ j * 256 ^ r := by rw [← pow256, ← e]; exact hbd
  have hoj := limb_lt lo hjo hbd2
  have hoj0 := (lo _ (List.getElem_mem hjo)).1
  have hp : (0 : Int) < 256 ^ r := Int.pow_pos (by omega)
  have hmax : (x + 1) * 256 ^ r ≤ B := by
    have h1 : (x + 1) * 256 ^ r ≤ 256 * 256 ^ r := Int.mul_le_mul_of_nonneg_right (by omega) (Int.le_of_lt hp)
    have h2 : (256 : Int) * 256 ^ r = 256 ^ (r + 1) := by rw [Int.pow_succ, Int.mul_comm]
    have h3 : (256 : Int) ^ (r + 1) ≤ 256 ^ 8 := p256 (by omega)
    rw [h2] at h1
    rw [← B256]
    exact Int.le_trans h1 h3
  rw [Int.add_mul, Int.one_mul] at hmax
  have hx0 : 0 ≤ x * 256 ^ r := Int.mul_nonneg hx.1 (Int.le_of_lt hp)
  refine ⟨x * 256 ^ r, o[j] + x * 256 ^ r, ?_, ?_, ⟨by omega, by omega⟩, ?_⟩
  · rw [← hxe, ← hr, ← e256]
    exact wrapB hx0 (by omega)
  · have h1 : o[i / 8]'(by omega) = o[j] := by congr 1; exact hj.symm
    rw [h1, or_comm64]
    have h2 := Ne.or_add (a := x) (b := o[j]) (8 * r) hx.1 ⟨hoj0, by rw [← e256]; exact hoj⟩ (by
      rw [← e256]
      have : x * 256 ^ r + o[j] < B := by omega
      exact this)
    rw [← e256] at h2
    rw [h2, Int.add_comm]
  · rw [← hj, V_set hjo, hv, show b.length - (i + 1) = b.length - 1 - i by omega, drop_cons (show b.length - 1 - i < b.length by omega), List.reverse_cons, le_snoc, ← hxe, show b.length - 1 - i + 1 = b.length - i by omega, List.length_reverse, List.length_drop, show b.length - (b.length - i) = i by omega]
    conv => rhs; rw [e, pow256]
    grind
theorem le_zeros : ∀ {l : List Int}, (∀ x ∈ l, x = 0) → le l = 0
  | [], _ => rfl
  | x :: l, h => by
    show x + 256 * le l = 0
    rw [h x (List.mem_cons_self ..), le_zeros (fun y hy => h y (List.mem_cons_of_mem _ hy))]
    rfl
theorem le_skip {b : List Int} {k : Nat} (h : ∀ x ∈ b.take k, x = 0) : le b.reverse = le (b.drop k).reverse := by
  conv => lhs; rw [← List.take_append_drop k b]
  rw [List.reverse_append, le_append, le_zeros (fun x hx => h x (List.mem_reverse.1 hx)), Int.mul_zero, Int.add_zero]
theorem drop_u8 {w : World} {ad : Addr} {c k : Nat} {xs : List Int} (h : Kd.C (Kd.int .u8) w (some ad) xs.length xs) (hk : k ≤ xs.length) (hc : xs.length ≤ c) (hne : ¬ c = k) : Kd.C (Kd.int .u8) w (some (ad.add k)) (xs.drop k).length (xs.drop k) := by
  have hd := Kd.C_drop (c := c) h hk hc
  rw [show k * (Kd.int .u8).sz = k from Nat.mul_one _] at hd
  rw [if_neg hne] at hd
  exact hd
theorem smeas2 {i n : Nat} (h : i < n) : n - (intOf (.int .i64 ((i : Int) + 1))).toNat < n - (intOf (.int .i64 (i : Int))).toNat := by
  simp only [intOf]
  omega
theorem q_len {n m : Nat} (h : n ≤ 1000) (hm : m = (n + 7) / 8) : wrap64 (Int.tdiv (wrap64 ((n : Int) + 7)) 8) = (m : Int) := by
  have e : wrap64 ((n : Int) + 7) = ((n + 7 : Nat) : Int) := by unfold wrap64; omega
  rw [e, w_div8 (by omega), hm]
theorem q_last {n i : Nat} (h : i < n) (h2 : n ≤ 1000) : wrap64 (wrap64 ((n : Int) - 1) - (i : Int)) = ((n - 1 - i : Nat) : Int) := w_sub3 (by omega) h
theorem w_seven {n : Nat} (h : n ≤ 1000000) : wrap64 ((n : Int) + 7) = ((n + 7 : Nat) : Int) := by unfold wrap64; omega
set_option maxRecDepth 100000 in
set_option maxHeartbeats 2000000 in
/-- A number out of bytes that do not begin with a nought. -/
theorem read_calls {A : Option Addr} {c : Nat} {bs : List Int} (w : World) (hr : Kd.C (Kd.int .u8) w A bs.length bs) (hc : bs.length ≤ c) (hb : Bt bs) (hl : bs.length ≤ 512) :
    Calls Try.prog 7 #[.slice A bs.length c] w fun e w' => ∃ A' c' y, e = .returned (.tuple #[.slice A' y.length c', .int .i64 0]) ∧ Below w.heap.size w w' ∧ Rd w' A' c' y ∧ Rt y ∧ V y = le bs.reverse ∧ y.length ≤ 64 := by
  have HI := Aside0.mk (index_calls (c := c) w hr (by omega))
  have HR := Aside0.mk hr
  have HB := Aside0.mk hb
  have HL := Aside0.mk hl
  have HC := Aside0.mk hc
  obtain ⟨N, hN⟩ : ∃ N, N = bs.length := ⟨_, rfl⟩
  have HN := Aside0.mk hN
  rw [← hN] at HI ⊢
  clear hr hb hl hc hN
  go_enter Try.func7, Try.ntmps7
  go_wp2_with fail
  refine HI.out.mono ?_
  rintro e w1 ⟨i, rfl, hw, hi⟩
  subst hw
  rcases hi with ⟨rfl, hz⟩ | ⟨k, rfl, hk, hz⟩
  · have HZ := Aside0.mk hz
    clear hz
    go_wp2_with fail
    go_ret2
    exact ⟨none, 0, [], rfl, Below.refl _ _, ⟨Kd.C_nil _ _, Nat.le_refl _, Lim.nil⟩, Nt.Rt.nil, by rw [le_zeros (fun x hx => HZ.out x (List.mem_reverse.1 hx))]; rfl, Nat.zero_le _⟩
  · have HZ := Aside0.mk hz
    clear hz
    have hkc : k < c := by have := HC.out; have := HN.out; omega
    have hkN : k < N := by have := HN.out; omega
    have hne : ¬ c = k := by omega
    have h1 : (0 : Int) ≤ (k : Int) := by omega
    have h2 : (k : Int) ≤ (N : Int) := by omega
    have h3 : (N : Int) ≤ (c : Int) := by have := HC.out; have := HN.out; omega
    obtain ⟨n, hn⟩ : ∃ n, N - k = n := ⟨_, rfl⟩
    obtain ⟨b, hbd⟩ : ∃ b, b = bs.drop k := ⟨_, rfl⟩
    have hbn : b.length = n := by rw [hbd, List.length_drop]; have := HN.out; omega
    have HBN := Aside0.mk hbn
    have HBT := Aside0.mk (show Bt b by rw [hbd]; exact fun x hx => HB.out x (List.mem_of_mem_drop hx))
    have HLE := Aside0.mk (show le bs.reverse = le b.reverse by rw [hbd]; exact le_skip HZ.out)
    obtain ⟨ad, hA, _⟩ := Kd.at_int HR.out 0 (by omega) (by have := HN.out; omega)
    subst hA
    have HRB := Aside0.mk (show Kd.C (Kd.int .u8) w (some (ad.add k)) b.length b by
      rw [hbd]
      exact drop_u8 HR.out (by have := HN.out; omega) HC.out hne)
    obtain ⟨m, hm⟩ : ∃ m, m = (n + 7) / 8 := ⟨_, rfl⟩
    have hn5 : n ≤ 512 := by have := HL.out; have := HN.out; omega
    have d1 : decide ((512 : Int) < (n : Int)) = false := decide_eq_false (by omega)
    have d2 : decide (512 < n) = false := decide_eq_false (by omega)
    have hm0 : (0 : Int) ≤ (m : Int) := by omega
    have hmk : (m : Int).toNat * 8 ≤ 281474976710656 := by omega
    have HM := Aside0.mk (And.intro hm hn5)
    have q3 := q_len (n := n) (by omega) hm
    clear hbd hbn hm hk hn5
    go_wp2_with ((with_reducible refine gate_dst (N := 21) rfl ?_); refine Kd.R_make (Kd.int .u64) w.heap.size 36 rfl (N := 21) rfl 23 _ _ rfl (m : Int) (by first | rfl | exact congrArg _ q3) (by first | rfl | exact congrArg _ q3) Try.underlying23 (.int .u64 0) 8 info36 rfl (by decide) (by omega) 0 (ok := fun _ => True) (okp := fun _ => True) rfl (fun _ hk => hk) trivial hm0 hmk (Below.refl _ _) (Nat.le_refl _) ?_; intro v5 w5 ho5 hb5 _ _; have HO5 := Aside0.mk ho5; have HB5 := Aside0.mk hb5; clear ho5 hb5)
    obtain ⟨g, cap, e5, hbg, _⟩ := Kd.R_form HO5.out (by simp; have := HM.out; have := hkN; have := hn; clear q3; omega)
    rw [List.length_replicate, Int.toNat_natCast] at e5
    rw [Int.toNat_natCast] at HO5
    subst e5
    have HS := Aside0.mk (show (List.replicate m (0 : Int)).length = m ∧ Lim (List.replicate m 0) ∧ V (List.replicate m 0) = le (b.drop (b.length - 0)).reverse by
      refine ⟨List.length_replicate, Lim.zeros _, ?_⟩
      rw [V_zeros, Nat.sub_zero, List.drop_of_length_le (Nat.le_refl _)]
      rfl)
    clear d1 d2 q3 hm0 hmk
    go_loopw [6, 24] (fun v6 v24 wr => ∃ (i : Nat) (o : List Int), v24 = .int .i64 (i : Int) ∧ i ≤ n ∧ Aside0 (o.length = m ∧ Lim o ∧ V o = le (b.drop (b.length - i)).reverse) ∧ Aside0 ((Kd.int .u64).R 36 wr w.heap.size (fun _ => True) (.slice (some ⟨g, 0, none⟩) m cap) o) ∧ Aside0 (Below w.heap.size w wr)) (fun _ v24 _ => n - (intOf v24).toNat)
    case atStart => exact ⟨0, _, rfl, Nat.zero_le _, HS, HO5, HB5⟩
    case round =>
      clear HS HO5 HB5
      obtain ⟨i, o, rfl, hi, HS, HO, HB2⟩ := hrel
      by_cases hlt : i < n
      · have hib : i < b.length := by have := HBN.out; omega
        have hjo : i / 8 < o.length := by have := HS.out.1; have := HM.out; omega
        obtain ⟨y, v, r1, r2, r3, r4⟩ := read_step HS.out.2.1 HBT.out hib (by have := HS.out.1; have := HM.out; have := HBN.out; omega) HS.out.2.2
        obtain ⟨p, hp⟩ : ∃ p, p = n - 1 - i := ⟨_, rfl⟩
        obtain ⟨j, hj⟩ : ∃ j, j = i / 8 := ⟨_, rfl⟩
        obtain ⟨sh, hsh⟩ : ∃ sh, sh = 8 * (i % 8) := ⟨_, rfl⟩
        have hpb : p < b.length := by have := HBN.out; omega
        have hjo2 : j < o.length := by omega
        have hbi := HBT.out _ (List.getElem_mem hpb)
        obtain ⟨x, hx⟩ : ∃ x, x = b[p] := ⟨_, rfl⟩
        obtain ⟨oj, hoj⟩ : ∃ x, x = o[j] := ⟨_, rfl⟩
        have e1 : b[b.length - 1 - i] = x := by rw [hx]; congr 1; have := HBN.out; omega
        have e2 : o[i / 8] = oj := by rw [hoj]; congr 1; exact hj.symm
        rw [e1, ← hsh] at r1
        rw [e2] at r2
        rw [← hj] at r4
        obtain ⟨_, ha, hbc⟩ := Kd.at_int (Kd.C_below HRB.out HB2.out) (p : Int) (by omega) (by have := HBN.out; omega)
        cases ha
        rw [rd_nat hpb, ← hx, Int.toNat_natCast] at hbc
        rw [← hx] at hbi
        have hmo : m = o.length := HS.out.1.symm
        obtain ⟨g1, g2⟩ := Kd.R_celln 0 HO.out (j : Int) (by omega) (by omega)
        rw [show rdOf 0 o (j : Int) = oj by rw [hoj]; simp [rdOf, hjo2], Int.toNat_natCast] at g1
        rw [Int.toNat_natCast] at g2
        have HP := Aside0.mk (Kd.R_putg HO.out (j : Int) v)
        rw [Int.toNat_natCast] at HP
        have HQ := Aside0.mk (show (o.set j v).length = m ∧ Lim (o.set j v) ∧ V (o.set j v) = le (b.drop (b.length - (i + 1))).reverse from ⟨by rw [List.length_set]; exact hmo.symm, HS.out.2.1.set _ r3, r4⟩)
        have HLT := Aside0.mk hlt
        have k1 : (i : Int) < (n : Int) := by omega
        have k2 : (0 : Int) ≤ (i : Int) := by omega
        have k3 : (0 : Int) ≤ (j : Int) := by omega
        have k4 : (j : Int) < (m : Int) := by omega
        have k5 : (0 : Int) ≤ (p : Int) := by omega
        have k6 : (p : Int) < (n : Int) := by omega
        have k7 : (0 : Int) ≤ (sh : Int) := by omega
        have k8 : (sh : Int) ≤ 64 := by omega
        have k9 : decide ((i : Int) < (n : Int)) = true := decide_eq_true k1
        have k10 : decide (i < n) = true := decide_eq_true hlt
        have k11 : sh ≤ 64 := by omega
        have r5 : IntKind.u64.wrap (x * 2 ^ min sh 64) = y := by rw [Nat.min_eq_left k11]; exact r1
        have hn512 : n ≤ 1000 := by have := HM.out; omega
        have r6 := wrapB (x := x) hbi.1 (by have := hbi.2; unfold B; omega)
        have f1 := w_div8 (i := i) (by omega)
        rw [← hj] at f1
        have f2 := q_last hlt hn512
        rw [← hp] at f2
        have f3 := w_mod8 (i := i) (by clear f1 f2 r1 r2 r5 r6; omega)
        rw [← hsh] at f3
        have f4 := lt_wrap (n := i) (by clear f1 f2 f3 r1 r2 r5 r6; omega)
        have f5 : wrap64 ((i : Int) / 8) = (j : Int) := by rw [← f1, Int.tdiv_eq_ediv_of_nonneg k2]
        have f6 : wrap64 (8 * ((i : Int) % 8)) = (sh : Int) := by rw [← f3, Int.tmod_eq_emod_of_nonneg k2]
        clear hbi hx hoj e1 e2 hp hj hsh hlt hib hjo hjo2 hpb r3 r4 hmo hi k11 hn512
        go_upto_region 11 with fail
        refine start_ (n := 21) (S := fun w' => w' = wr.drew) (ds := [20]) #[false, false, false, false, false, false, false, false, false, false, false, false, false, false, false, false, false, false, false, false, false] (by kernel_rfl) rfl rfl rfl (fun hHeld => ?_)
        refine pure_ (i := 0) (N := some 27) (v := ?_) (a' := ?_) #[true, false, false, false, false, false, false, false, false, false, false, false, false, false, false, false, false, false, false, false, false] rfl rfl (by kernel_rfl) (fun _ _ _ h => h) (Or.inl ⟨by rfl, ?_⟩) ?_ ?_
        rotate_left
        · intro w'
          go_simp
          try with_reducible rfl
        rotate_left
        · simp only [Act.put, List.setIfInBounds_toArray, List.set_cons_zero, List.set_cons_succ, i64_w, i32_w]
          rfl
        refine pure_ (i := 1) (N := some 28) (v := ?_) (a' := ?_) #[true, true, false, false, false, false, false, false, false, false, false, false, false, false, false, false, false, false, false, false, false] rfl rfl (by kernel_rfl) (fun _ _ _ h => h) (Or.inl ⟨by rfl, ?_⟩) ?_ ?_
        rotate_left
        · intro w'
          go_simp
          try with_reducible rfl
        rotate_left
        · simp only [Act.put, List.setIfInBounds_toArray, List.set_cons_zero, List.set_cons_succ, i64_w, i32_w]
          rfl
        refine pure_ (i := 2) (N := some 29) (v := ?_) (a' := ?_) #[true, true, true, false, false, false, false, false, false, false, false, false, false, false, false, false, false, false, false, false, false] rfl rfl (by kernel_rfl) (fun _ _ _ h => h) (Or.inl ⟨by rfl, ?_⟩) ?_ ?_
        rotate_left
        · intro w'
          go_simp
          try with_reducible rfl
        rotate_left
        · simp only [Act.put, List.setIfInBounds_toArray, List.set_cons_zero, List.set_cons_succ, i64_w, i32_w]
          rfl
        refine pure_ (i := 3) (N := some 30) (v := ?_) (a' := ?_) #[true, true, true, true, false, false, false, false, false, false, false, false, false, false, false, false, false, false, false, false, false] rfl rfl (by kernel_rfl) (fun _ _ _ h => h) (Or.inl ⟨by rfl, ?_⟩) ?_ ?_
        rotate_left
        · intro w'
          go_simp
          try with_reducible rfl
        rotate_left
        · simp only [Act.put, List.setIfInBounds_toArray, List.set_cons_zero, List.set_cons_succ, i64_w, i32_w]
          rfl
        refine take_ (i := 4) (N := some 31) (v := ?_) (a' := ?_) #[true, true, true, true, true, false, false, false, false, false, false, false, false, false, false, false, false, false, false, false, false] rfl rfl (by kernel_rfl) (fun _ _ _ h => h) (Or.inl ⟨by rfl, ?_⟩) hHeld ?_ ?_
        rotate_left
        · intro w' hSw
          subst hSw
          go_simp
          try with_reducible rfl
        rotate_left
        · simp only [Act.put, List.setIfInBounds_toArray, List.set_cons_zero, List.set_cons_succ, i64_w, i32_w]
          rfl
        refine pure_ (i := 5) (N := some 32) (v := ?_) (a' := ?_) #[true, true, true, true, true, true, false, false, false, false, false, false, false, false, false, false, false, false, false, false, false] rfl rfl (by kernel_rfl) (fun _ _ _ h => h) (Or.inl ⟨by rfl, ?_⟩) ?_ ?_
        rotate_left
        · intro w'
          go_simp
          try with_reducible rfl
        rotate_left
        · simp only [Act.put, List.setIfInBounds_toArray, List.set_cons_zero, List.set_cons_succ, i64_w, i32_w]
          rfl
        refine pure_ (i := 6) (N := some 33) (v := ?_) (a' := ?_) #[true, true, true, true, true, true, true, false, false, false, false, false, false, false, false, false, false, false, false, false, false] rfl rfl (by kernel_rfl) (fun _ _ _ h => h) (Or.inl ⟨by rfl, ?_⟩) ?_ ?_
        rotate_left
        · intro w'
          go_simp
          try with_reducible rfl
        rotate_left
        · simp only [Act.put, List.setIfInBounds_toArray, List.set_cons_zero, List.set_cons_succ, i64_w, i32_w]
          rfl
        refine pure_ (i := 7) (N := some 34) (v := ?_) (a' := ?_) #[true, true, true, true, true, true, true, true, false, false, false, false, false, false, false, false, false, false, false, false, false] rfl rfl (by kernel_rfl) (fun _ _ _ h => h) (Or.inl ⟨by rfl, ?_⟩) ?_ ?_
        rotate_left
        · intro w'
          go_simp
          try with_reducible rfl
        rotate_left
        · simp only [Act.put, List.setIfInBounds_toArray, List.set_cons_zero, List.set_cons_succ, i64_w, i32_w]
          rfl
        refine pure_ (i := 8) (N := some 35) (v := ?_) (a' := ?_) #[true, true, true, true, true, true, true, true, true, false, false, false, false, false, false, false, false, false, false, false, false] rfl rfl (by kernel_rfl) (fun _ _ _ h => h) (Or.inl ⟨by rfl, ?_⟩) ?_ ?_
        rotate_left
        · intro w'
          go_simp
          try with_reducible rfl
        rotate_left
        · simp only [Act.put, List.setIfInBounds_toArray, List.set_cons_zero, List.set_cons_succ, i64_w, i32_w]
          rfl
        refine pure_ (i := 9) (N := some 36) (v := ?_) (a' := ?_) #[true, true, true, true, true, true, true, true, true, true, false, false, false, false, false, false, false, false, false, false, false] rfl rfl (by kernel_rfl) (fun _ _ _ h => h) (Or.inl ⟨by rfl, ?_⟩) ?_ ?_
        rotate_left
        · intro w'
          go_simp
          try with_reducible rfl
        rotate_left
        · simp only [Act.put, List.setIfInBounds_toArray, List.set_cons_zero, List.set_cons_succ, i64_w, i32_w]
          rfl
        refine pure_ (i := 10) (N := some 37) (v := ?_) (a' := ?_) #[true, true, true, true, true, true, true, true, true, true, true, false, false, false, false, false, false, false, false, false, false] rfl rfl (by kernel_rfl) (fun _ _ _ h => h) (Or.inl ⟨by rfl, ?_⟩) ?_ ?_
        rotate_left
        · intro w'
          go_simp
          try with_reducible rfl
        rotate_left
        · simp only [Act.put, List.setIfInBounds_toArray, List.set_cons_zero, List.set_cons_succ, i64_w, i32_w]
          rfl
        refine pure_ (i := 11) (N := some 38) (v := ?_) (a' := ?_) #[true, true, true, true, true, true, true, true, true, true, true, true, false, false, false, false, false, false, false, false, false] rfl rfl (by kernel_rfl) (fun _ _ _ h => h) (Or.inl ⟨by rfl, ?_⟩) ?_ ?_
        rotate_left
        · intro w'
          go_simp
          try with_reducible rfl
        rotate_left
        · simp only [Act.put, List.setIfInBounds_toArray, List.set_cons_zero, List.set_cons_succ, i64_w, i32_w]
          rfl
        refine take_ (i := 12) (N := some 39) (v := ?_) (a' := ?_) #[true, true, true, true, true, true, true, true, true, true, true, true, true, false, false, false, false, false, false, false, false] rfl rfl (by kernel_rfl) (fun _ _ _ h => h) (Or.inl ⟨by rfl, ?_⟩) hHeld ?_ ?_
        rotate_left
        · intro w' hSw
          subst hSw
          go_simp
          try with_reducible rfl
        rotate_left
        · simp only [Act.put, List.setIfInBounds_toArray, List.set_cons_zero, List.set_cons_succ, i64_w, i32_w]
          rfl
        refine pure_ (i := 13) (N := some 40) (v := ?_) (a' := ?_) #[true, true, true, true, true, true, true, true, true, true, true, true, true, true, false, false, false, false, false, false, false] rfl rfl (by kernel_rfl) (fun _ _ _ h => h) (Or.inl ⟨by rfl, ?_⟩) ?_ ?_
        rotate_left
        · intro w'
          go_simp
          try with_reducible rfl
        rotate_left
        · simp only [Act.put, List.setIfInBounds_toArray, List.set_cons_zero, List.set_cons_succ, i64_w, i32_w]
          rfl
        refine pure_ (i := 14) (N := some 41) (v := ?_) (a' := ?_) #[true, true, true, true, true, true, true, true, true, true, true, true, true, true, true, false, false, false, false, false, false] rfl rfl (by kernel_rfl) (fun _ _ _ h => h) (Or.inl ⟨by rfl, ?_⟩) ?_ ?_
        rotate_left
        · intro w'
          go_simp
          try with_reducible rfl
        rotate_left
        · simp only [Act.put, List.setIfInBounds_toArray, List.set_cons_zero, List.set_cons_succ, i64_w, i32_w]
          rfl
        refine pure_ (i := 15) (N := some 42) (v := ?_) (a' := ?_) #[true, true, true, true, true, true, true, true, true, true, true, true, true, true, true, true, false, false, false, false, false] rfl rfl (by kernel_rfl) (fun _ _ _ h => h) (Or.inl ⟨by rfl, ?_⟩) ?_ ?_
        rotate_left
        · intro w'
          go_simp
          try with_reducible rfl
        rotate_left
        · simp only [Act.put, List.setIfInBounds_toArray, List.set_cons_zero, List.set_cons_succ, i64_w, i32_w]
          rfl
        refine pure_ (i := 16) (N := some 43) (v := ?_) (a' := ?_) #[true, true, true, true, true, true, true, true, true, true, true, true, true, true, true, true, true, false, false, false, false] rfl rfl (by kernel_rfl) (fun _ _ _ h => h) (Or.inl ⟨by rfl, ?_⟩) ?_ ?_
        rotate_left
        · intro w'
          go_simp
          try with_reducible rfl
        rotate_left
        · simp only [Act.put, List.setIfInBounds_toArray, List.set_cons_zero, List.set_cons_succ, i64_w, i32_w]
          rfl
        refine pure_ (i := 17) (N := some 44) (v := ?_) (a' := ?_) #[true, true, true, true, true, true, true, true, true, true, true, true, true, true, true, true, true, true, false, false, false] rfl rfl (by kernel_rfl) (fun _ _ _ h => h) (Or.inl ⟨by rfl, ?_⟩) ?_ ?_
        rotate_left
        · intro w'
          go_simp
          try with_reducible rfl
        rotate_left
        · simp only [Act.put, List.setIfInBounds_toArray, List.set_cons_zero, List.set_cons_succ, i64_w, i32_w]
          rfl
        refine pure_ (i := 18) (N := some 45) (v := ?_) (a' := ?_) #[true, true, true, true, true, true, true, true, true, true, true, true, true, true, true, true, true, true, true, false, false] rfl rfl (by kernel_rfl) (fun _ _ _ h => h) (Or.inl ⟨by rfl, ?_⟩) ?_ ?_
        rotate_left
        · intro w'
          go_simp
          try with_reducible rfl
        rotate_left
        · simp only [Act.put, List.setIfInBounds_toArray, List.set_cons_zero, List.set_cons_succ, i64_w, i32_w]
          rfl
        refine pure_ (i := 19) (N := some 46) (v := ?_) (a' := ?_) #[true, true, true, true, true, true, true, true, true, true, true, true, true, true, true, true, true, true, true, true, false] rfl rfl (by kernel_rfl) (fun _ _ _ h => h) (Or.inl ⟨by rfl, ?_⟩) ?_ ?_
        rotate_left
        · intro w'
          go_simp
          try with_reducible rfl
        rotate_left
        · simp only [Act.put, List.setIfInBounds_toArray, List.set_cons_zero, List.set_cons_succ, i64_w, i32_w]
          rfl
        refine last_ (i := 20) (N := none) #[true, true, true, true, true, true, true, true, true, true, true, true, true, true, true, true, true, true, true, true, true] rfl rfl (by kernel_rfl) (by decide) (fun K hK => ?_)
        refine skip_ (w1 := (wr.drew).setCell ⟨g, j, none⟩ (.int .u64 v)) (by rfl) rfl (by first | (go_simp; done) | (go_simp; rfl)) ?_
        refine hK.out _ _ ?_
        clear hK K
        refine done_ (by kernel_rfl) ?_
        go_wp2_with fail
        go_roundw
        case rel => exact ⟨i + 1, _, by go_num, HLT.out, HQ, ⟨by have h := HP.out.1; exact h⟩, ⟨below_set (below_drew HB2.out) hbg⟩⟩
        case measure => first | exact smeas2 HLT.out | (rw [f4]; exact smeas2 HLT.out) | (simp only [intOf]; omega)
      · have k9 : decide ((i : Int) < (n : Int)) = false := decide_eq_false (by omega)
        have k10 : decide (i < n) = false := decide_eq_false hlt
        have hin : i = n := by omega
        have hvl : V o = le b.reverse := by
          have h := HS.out.2.2
          rw [show b.length - i = 0 by have := HBN.out; omega, List.drop_zero] at h
          exact h
        have hbt2 : Bt b.reverse := fun x hx => HBT.out x (List.mem_reverse.1 hx)
        have hvb : V o < B ^ 64 := by
          rw [hvl]
          have h1 := (le_bounds hbt2).2
          have h2 : (256 : Int) ^ b.reverse.length ≤ 256 ^ 512 := p256 (by rw [List.length_reverse]; have := HBN.out; have := HM.out; omega)
          have h3 : (256 : Int) ^ 512 = B ^ 64 := by rw [← B256, ← Int.pow_mul]
          rw [← h3]
          exact Int.lt_of_lt_of_le h1 h2
        obtain ⟨A2, c2, hA2, HRd⟩ := rd_of_R HO.out HS.out.2.1
        injection hA2 with hA3 hA4 hA5
        subst hA3
        subst hA5
        have HT := Aside0.mk (told_rd wr HRd (by rw [HS.out.1]; have := HM.out; omega) hvb)
        rw [HS.out.1] at HT
        have HVL := Aside0.mk hvl
        clear hlt hi hin hvl hvb HRd hA4
        go_wp2_with fail
        refine HT.out.mono ?_
        rintro e w1 ⟨r, rfl, hw, t1, t2, t3, t4⟩
        subst hw
        have HQ := Aside0.mk (And.intro t1 (And.intro t2 (And.intro t3 t4)))
        clear t1 t2 t3 t4
        go_wp2_with fail
        go_ret2
        exact ⟨_, _, r, rfl, HB2.out, HQ.out.1, HQ.out.2.1, by rw [HQ.out.2.2.1, HVL.out, HLE.out], HQ.out.2.2.2⟩
end Go.Proofs.Ytdaelbihfdlgkaa.Nb
