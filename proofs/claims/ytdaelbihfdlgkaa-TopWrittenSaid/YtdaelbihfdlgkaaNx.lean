/- A number out of its text. -/
import Derived.Test.YtdaelbihfdlgkaaNc
import Derived.Deep.CutBlock
import Derived.Outline
namespace Go.Proofs.Ytdaelbihfdlgkaa.Nx
open Go.RowKit Go.Proofs.Ytdaelbihfdlgkaa.Na Go.Proofs.Ytdaelbihfdlgkaa.Nv Go.Proofs.Ytdaelbihfdlgkaa.Ns Go.Proofs.Ytdaelbihfdlgkaa.Nt Go.Proofs.Ytdaelbihfdlgkaa.Np Go.Proofs.Ytdaelbihfdlgkaa.Nq Go.Proofs.Ytdaelbihfdlgkaa.Nu Go.Proofs.Ytdaelbihfdlgkaa.No Go.Proofs.Ytdaelbihfdlgkaa.Nc Go.Proofs.Ytdaelbihfdlgkaa.Fns Go.Proofs.YtdaelbihfdlgkaaW.PrintWords Go.Proofs.YtdaelbihfdlgkaaW.PrintLast Go.Proofs.YtdaelbihfdlgkaaW.PrintMore
set_option linter.unusedVariables false
set_option linter.unusedSimpArgs false
/-! ### the text -/
theorem str_toList (cs : List Int) : (strOfNums cs).data.toList = cs.map fun n => UInt8.ofNat n.toNat := rfl
theorem str_ne {cs : List Int} {S : ByteArray} (h : S = strOfNums cs) (hn : 0 < cs.length) (he : S.toList = []) : False := by
  have h1 : S.toList.length = S.size := by rw [ByteArray.toList_eq]; exact data_length S
  rw [he, h, strOfNums_size] at h1
  simp at h1
  omega
theorem dig_back {c : Int} (h : 48 ≤ c ∧ c ≤ 57) : ((UInt8.ofNat c.toNat).toNat : Int) = c := by
  rw [UInt8.toNat_ofNat']
  omega
theorem str_at {cs : List Int} (hd : Dg cs) {j : Nat} (hj : j < cs.length) : (((strOfNums cs).data.toList.getD j 0).toNat : Int) = cs[j] := by
  rw [str_toList, List.getD_eq_getElem?_getD, List.getElem?_map, List.getElem?_eq_getElem hj]
  exact dig_back (hd _ (List.getElem_mem hj))
theorem str_ok {cs : List Int} {S : ByteArray} (h : S = strOfNums cs) (hd : Dg cs) (hn : 0 < cs.length) (hl : cs.length ≤ 600) (hf : ∀ c, cs.head? = some c → c ≠ 48) (hs : 0 < S.size) : (S.toList.isEmpty || decide ((1240 : Int) < (S.size : Int)) || ((S[0].toNat : Int) == 48)) = false := by
  have h1 : S.toList.isEmpty = false := by
    cases e : S.toList with
    | nil => exact (str_ne h hn e).elim
    | cons _ _ => rfl
  have h2 : decide ((1240 : Int) < (S.size : Int)) = false := decide_eq_false (by rw [h, strOfNums_size]; omega)
  have h3 : ((S[0].toNat : Int) == 48) = false := by
    subst h
    have e : (S0 : Nat) → S0 = ((strOfNums cs)[0]).toNat → (S0 : Int) ≠ 48 := by
      intro S0 hS
      have e2 := str_at hd hn
      have e3 : (strOfNums cs).data.toList.getD 0 0 = (strOfNums cs)[0] := by
        rw [List.getD_eq_getElem?_getD, List.getElem?_eq_getElem (by rw [data_length]; exact hs)]
        rfl
      rw [e3] at e2
      rw [hS, e2]
      exact hf _ (by rw [List.head?_eq_getElem?, List.getElem?_eq_getElem])
    exact beq_eq_false_iff_ne.2 (e _ rfl)
  rw [h1, h2, h3]
  rfl
theorem str_ok2 {cs : List Int} {S : ByteArray} (h : S = strOfNums cs) (hn : 0 < cs.length) (hl : cs.length ≤ 600) : (S.toList.isEmpty || decide ((1240 : Int) < (S.size : Int))) = false := by
  have h1 : S.toList.isEmpty = false := by
    cases e : S.toList with
    | nil => exact (str_ne h hn e).elim
    | cons _ _ => rfl
  have h2 : decide ((1240 : Int) < (S.size : Int)) = false := decide_eq_false (by rw [h, strOfNums_size]; omega)
  rw [h1, h2]
  rfl
/-! ### the text's bytes, read while the limbs are written -/
def By (W : World) (bb : Nat) (cs : List Int) : Prop := bb < W.heap.size ∧ ∀ j (h : j < cs.length), W.cell? ⟨bb, j, none⟩ = some (.int .u8 cs[j])
theorem By.keep {W W' : World} {bb : Nat} {cs : List Int} (h : By W bb cs) (hs : W.heap.size ≤ W'.heap.size) (hk : W'.heap[bb]? = W.heap[bb]?) : By W' bb cs :=
  ⟨Nat.lt_of_lt_of_le h.1 hs, fun j hj => by have := h.2 j hj; unfold World.cell? at this ⊢; rw [hk]; exact this⟩
theorem By.below {W W' : World} {bb : Nat} {cs : List Int} (h : By W bb cs) (hb : Below W.heap.size W W') : By W' bb cs := h.keep hb.size (hb.block bb h.1)
theorem By.set {W : World} {bb g j : Nat} {v : Value} {cs : List Int} (h : By W bb cs) (hg : bb ≠ g) : By (W.setCell ⟨g, j, none⟩ v) bb cs :=
  h.keep (by simp [World.setCell]) (Below.heap_setCell W ⟨g, j, none⟩ v bb hg)
theorem By.grown {W W' : World} {bb : Nat} {row : Option Nat} {cs : List Int} (h : By W bb cs) (hg : W.grownBy W' row) (hn : some bb ≠ row) : By W' bb cs := h.keep hg.size (hg.block bb h.1 hn)
theorem by_start {cs : List Int} {S : ByteArray} (h : S = strOfNums cs) (hd : Dg cs) (w : World) : By (Lib.bytesWorld w 5 S) w.heap.size cs := by
  subst h
  refine ⟨by rw [Lib.bytesWorld_size]; omega, fun j hj => ?_⟩
  rw [Lib.bytesWorld_cell w 5 _ j (by rw [strOfNums_size]; exact hj), str_at hd hj]
/-! ### ten times a number, and a digit -/
structure InI (o : List Int) (c0 : Int) (j : Nat) (o' : List Int) (cy : Int) : Prop where
  n : o'.length = o.length
  l : Lim o'
  c : 0 ≤ cy ∧ cy ≤ 9
  d : o'.drop j = o.drop j
  v : V o' + cy * B ^ j = 10 * V (o.take j) + c0 + B ^ j * V (o.drop j)
theorem InI.start {o : List Int} {c0 : Int} (lo : Lim o) (hc : 0 ≤ c0 ∧ c0 ≤ 9) : InI o c0 0 o c0 :=
  ⟨rfl, lo, hc, rfl, by rw [List.take_zero, List.drop_zero, Int.pow_zero]; show V o + c0 * 1 = 10 * 0 + c0 + 1 * V o; omega⟩
theorem InI.at {o o' : List Int} {c0 cy : Int} {j : Nat} (h : InI o c0 j o' cy) (hj : j < o.length) : o'[j]'(by rw [h.n]; exact hj) = o[j] := by
  have e := h.d
  rw [drop_cons (by rw [h.n]; exact hj), drop_cons hj] at e
  injection e
theorem InI.step {o o' : List Int} {c0 cy : Int} {j : Nat} (h : InI o c0 j o' cy) (hj : j < o.length) (lo : Lim o) :
    ∃ hh l d k, bits_Mul64.f o[j] 10 = some (hh, l) ∧ bits_Add64.f l cy 0 = some (d, k) ∧ IntKind.u64.wrap (hh + k) = hh + k ∧ InI o c0 (j + 1) (o'.set j d) (hh + k) := by
  have hx := lo _ (List.getElem_mem hj)
  obtain ⟨hh, l, e1, e2, e3, e4, e5, e6⟩ := mul64_ok (y := 10) hx (by unfold B; omega)
  have hB : B = 18446744073709551616 := rfl
  obtain ⟨d, k, f1, f2, f3, f4, f5, f6⟩ := add64_ok (x := l) (y := cy) (c := 0) ⟨e3, e4⟩ (by rw [hB]; have := h.c; omega) (by omega)
  have hcy : hh + k ≤ 9 := by
    have := h.c
    rw [hB] at e2 f2 f4 hx
    omega
  have hjo : j < o'.length := by rw [h.n]; exact hj
  refine ⟨hh, l, d, k, e1, f1, wrapB (by omega) (by rw [hB]; omega), by rw [List.length_set]; exact h.n, h.l.set _ ⟨f3, f4⟩, ⟨by omega, hcy⟩, ?_, ?_⟩
  · rw [List.drop_set_of_lt (by omega)]
    have e := h.d
    rw [drop_cons hjo, drop_cons hj] at e
    injection e
  · have hv := h.v
    rw [drop_cons hj] at hv
    rw [V_set hjo, h.at hj, V_take_succ hj, Int.pow_succ]
    have t : V (o[j] :: o.drop (j + 1)) = o[j] + B * V (o.drop (j + 1)) := rfl
    rw [t] at hv
    generalize V (o.drop (j + 1)) = D at *
    generalize V (o.take j) = T at *
    generalize B ^ j = P at *
    generalize o[j] = x at *
    have e7 : x * 10 + cy = (hh + k) * B + d := by rw [Int.add_mul]; omega
    have e8 : V o' = 10 * T + c0 + P * (x + B * D) - cy * P := by omega
    rw [e8]
    have e9 : P * (x * 10 + cy) = P * ((hh + k) * B + d) := by rw [e7]
    grind
theorem InI.done {o o' : List Int} {c0 cy : Int} (h : InI o c0 o.length o' cy) : V o' + cy * B ^ o.length = 10 * V o + c0 := by
  have hv := h.v
  rw [List.take_of_length_le (Nat.le_refl _), List.drop_of_length_le (Nat.le_refl _)] at hv
  have e : B ^ o.length * V [] = 0 := Int.mul_zero _
  omega
/-- The digits read so far. -/
def Pi (cs : List Int) (i : Nat) (o : List Int) : Prop := Lim o ∧ V o = dec (cs.take i).reverse ∧ o.length ≤ i
theorem dec_next {cs : List Int} {i : Nat} (hi : i < cs.length) : dec (cs.take (i + 1)).reverse = 10 * dec (cs.take i).reverse + (cs[i] - 48) := by
  rw [List.take_succ_eq_append_getElem hi, List.reverse_append]
  show (cs[i] - 48) + 10 * dec (cs.take i).reverse = _
  omega
theorem Pi.next {cs o o' : List Int} {i : Nat} {cy : Int} (h : Pi cs i o) (hi : i < cs.length) (h2 : InI o (cs[i] - 48) o.length o' cy) (h0 : cy = 0) : Pi cs (i + 1) o' := by
  refine ⟨h2.l, ?_, by have := h2.n; have := h.2.2; omega⟩
  have := h2.done
  rw [h0, Int.zero_mul, h.2.1] at this
  rw [dec_next hi]
  omega
theorem Pi.more {cs o o' : List Int} {i : Nat} {cy : Int} (h : Pi cs i o) (hi : i < cs.length) (h2 : InI o (cs[i] - 48) o.length o' cy) : Pi cs (i + 1) (o' ++ [cy]) := by
  have hB : B = 18446744073709551616 := rfl
  refine ⟨h2.l.append (Lim.cons (by rw [hB]; have := h2.c; omega) Lim.nil), ?_, by have := h2.n; have := h.2.2; rw [List.length_append, List.length_singleton]; omega⟩
  have := h2.done
  rw [h.2.1] at this
  rw [V_snoc, dec_next hi, h2.n, Int.mul_comm]
  omega
theorem dec_big {cs : List Int} (hd : Dg cs) : dec cs < 10 ^ cs.length := by
  induction cs with
  | nil => exact Int.pow_pos (by omega)
  | cons c cs ih =>
    have h1 := ih (fun x hx => hd x (List.mem_cons_of_mem _ hx))
    have h2 := hd c (List.mem_cons_self ..)
    show (c - 48) + 10 * dec cs < 10 ^ (cs.length + 1)
    rw [Int.pow_succ]
    generalize (10 : Int) ^ cs.length = X at *
    omega
theorem ten19 : (10 : Int) ^ 19 ≤ B := by unfold B; decide
theorem ten_B (n : Nat) : (10 : Int) ^ (19 * n) ≤ B ^ n := by
  rw [Int.pow_mul]
  induction n with
  | zero => exact Int.le_refl _
  | succ n ih =>
    rw [Int.pow_succ, Int.pow_succ]
    exact Int.mul_le_mul ih ten19 (Int.le_of_lt (Int.pow_pos (by omega))) (Int.le_of_lt (pow_pos n))
theorem dec_B {cs : List Int} (hd : Dg cs) (hl : cs.length ≤ 600) : dec cs < B ^ 64 := by
  have h1 := dec_big hd
  have h2 : (10 : Int) ^ cs.length ≤ 10 ^ (19 * 32) := p10 (by omega)
  have h3 := ten_B 32
  have h4 := pow_mono (show 32 ≤ 64 by omega)
  generalize (10 : Int) ^ (19 * 32) = X at *
  generalize B ^ 32 = Y at *
  generalize B ^ 64 = Z at *
  omega
theorem make_out (w : World) : ∃ w1, (Instr.makeSlice 23 (.int .i64 0) (.int .i64 66)).run Try.prog w = .ok (.slice (some ⟨w.heap.size, 0, none⟩) 0 66) w1 ∧ (Kd.int .u64).R 36 w1 w.heap.size (fun k => k ≠ w1.heap.size) (.slice (some ⟨w.heap.size, 0, none⟩) 0 66) [] ∧ Below w.heap.size w w1 := by
  have hi := info36
  obtain ⟨i0, hi, hzz⟩ := Option.map_eq_some_iff.1 hi
  simp only [Prod.mk.injEq] at hzz
  obtain ⟨hz0, hz1, hz2⟩ := hzz
  obtain ⟨w1, h1, h2, h3⟩ := run_make_own (P := Try.prog) w w.heap.size 23 36 i0 (.int .u64 0) 1 Try.underlying23 hi hz0 hz1 .i64 .i64 66 (by rw [hz2]; omega) (by simp [maxLen]) (Nat.le_refl _)
  refine ⟨w1, h1, Kd.R_of_own h2 ?_, (Below.refl _ w).grown h3 (Nat.le_refl _) (fun j hj => by cases hj)⟩
  intro k hk
  have : k = w.heap.size := by simpa [Value.ownBlock] using hk.symm
  have h4 := own_lt h2 k hk
  omega
theorem pmeas {i n : Nat} (h : i < n) : n - (intOf (.int .i64 ((i : Int) + 1))).toNat < n - (intOf (.int .i64 (i : Int))).toNat := by
  simp only [intOf]
  omega
theorem add_step2 {x y c d k : Int} (h : bits_Add64.f x y c = some (d, k)) (w : World) : CallsX Try.prog 13 #[.int .u64 x, .int .u64 y, .int .u64 c] w fun e w' => e = .returned (.tuple #[.int .u64 d, .int .u64 k]) ∧ w' = w := by
  obtain ⟨v, h1, h2, _⟩ := bits_Add64.calls x y c _ _ w h
  exact ⟨v, h1, h2, rfl⟩
set_option maxRecDepth 100000 in
set_option maxHeartbeats 2000000 in
theorem parse_calls {cs : List Int} (w : World) (hd : Dg cs) (hne : 0 < cs.length) (hl : cs.length ≤ 600) (hf : ∀ c, cs.head? = some c → c ≠ 48) :
    Calls Try.prog 5 #[.string (strOfNums cs)] w fun e w' => ∃ A c r, e = .returned (.tuple #[.slice A r.length c, .int .i64 0]) ∧ Below w.heap.size w w' ∧ Nm w' A c r ∧ V r = dec cs.reverse := by
  obtain ⟨S, hS⟩ : ∃ S, S = strOfNums cs := ⟨_, rfl⟩
  have HS := Aside0.mk hS
  rw [← hS]
  have HC := Aside0.mk (And.intro hd (And.intro hne (And.intro hl hf)))
  clear hd hne hl hf hS
  go_enter Try.func5, Try.ntmps5
  go_upto_region 1 with fail
  go_cut [29] from 13 to 29 (fun v29 wx => v29 = .bool false ∧ wx = w)
  case first =>
    go_wp2_with fail
    all_goals go_meet
    · rename_i h
      exact (str_ne HS.out HC.out.2.1 h).elim
    · rename_i h1 h2
      refine ⟨?_, rfl⟩
      rw [str_ok HS.out HC.out.1 HC.out.2.1 HC.out.2.2.1 HC.out.2.2.2 h2]
    · refine ⟨?_, rfl⟩
      rw [str_ok2 HS.out HC.out.2.1 HC.out.2.2.1]
    · rename_i h
      have := HC.out.2.2.1
      rw [HS.out, strOfNums_size] at h
      omega
  case rest =>
    obtain ⟨rfl, hw⟩ := hcut
    have hw2 := hw.symm
    subst hw2
    clear hw
    obtain ⟨w1, hmk, ho1, hb1⟩ := make_out w
    have kb := print_bytes (P := Try.prog) 9 30 5 Try.underlying9 Try.underlying30 Try.underlying5 S w1
    obtain ⟨n, hn⟩ : ∃ n, n = S.size := ⟨_, rfl⟩
    obtain ⟨cb, hcb⟩ : ∃ c, c = grownCap w1 S.size 0 5 := ⟨_, rfl⟩
    rw [← hcb, ← hn] at kb
    have HNS := Aside0.mk (show n = cs.length by rw [hn, HS.out, strOfNums_size])
    have HBW := Aside0.mk (bytes_below hb1 hb1.size 5 S)
    have HO1 := Aside0.mk (Kd.R_below ho1 (bytes_below (Below.refl _ w1) (Nat.le_refl _) 5 S))
    have HBY := Aside0.mk (by_start HS.out HC.out.1 w1)
    clear ho1 hb1 hcb hn
    obtain ⟨w2, hw2⟩ : ∃ w2, w2 = Lib.bytesWorld w1 5 S := ⟨_, rfl⟩
    obtain ⟨bb, hbb⟩ : ∃ bb, bb = w1.heap.size := ⟨_, rfl⟩
    rw [← hw2, ← hbb] at kb HBY HO1
    rw [← hw2] at HBW
    clear hw2 hbb
    go_upto_region 5 with fail
    clear hmk kb
    go_wp2_with fail
    go_loopw [4, 6, 7, 8, 9, 10, 11, 12, 34] (fun v4 v6 v7 v8 v9 v10 v11 v12 v34 wr => ∃ (i : Nat) (o : List Int) (v : Value), v = v4 ∧ v34 = .int .i64 (i : Int) ∧ i ≤ n ∧ Aside0 (Pi cs i o) ∧ Aside0 ((Kd.int .u64).R 36 wr w.heap.size (fun k => k ≠ bb) v o) ∧ Aside0 (Below w.heap.size w wr) ∧ Aside0 (By wr bb cs)) (fun _ _ _ _ _ _ _ _ v34 _ => n - (intOf v34).toNat)
    case atStart => exact ⟨0, [], _, rfl, rfl, Nat.zero_le _, ⟨⟨Lim.nil, rfl, Nat.le_refl _⟩⟩, HO1, HBW, HBY⟩
    case round =>
      clear HO1 HBW HBY
      obtain ⟨i, o, v, rfl, rfl, hi, HP, HO, HB, HY⟩ := hrel
      by_cases hlt : i < n
      · have hic : i < cs.length := by have := HNS.out; omega
        have HIC := Aside0.mk hic
        obtain ⟨x, hx⟩ : ∃ x, x = cs[i]'HIC.out := ⟨_, rfl⟩
        have hxc := HY.out.2 i HIC.out
        have hxd := HC.out.1 _ (List.getElem_mem HIC.out)
        rw [← hx] at hxc hxd
        obtain ⟨y, hy⟩ : ∃ y, y = x - 48 := ⟨_, rfl⟩
        have HYY := Aside0.mk (show y = cs[i]'HIC.out - 48 by rw [hy, hx])
        have HY9 := Aside0.mk (show 0 ≤ y ∧ y ≤ 9 by omega)
        have k0 : (0 : Int) ≤ (i : Int) := by omega
        have k1 : (i : Int) < (n : Int) := by omega
        have k2 : decide ((i : Int) < (n : Int)) = true := decide_eq_true k1
        have k3 : decide (i < n) = true := decide_eq_true hlt
        have d1 : decide (x < 48) = false := decide_eq_false (by omega)
        have d2 : decide (57 < x) = false := decide_eq_false (by omega)
        have d3 : IntKind.u8.wrap (x - 48) = y := by rw [IntKind.wrap_u8]; omega
        have d4 : (x - 48) % 256 = y := by omega
        have d5 : IntKind.u64.wrap y = y := by rw [IntKind.wrap_u64]; omega
        obtain ⟨A, c, rfl⟩ := Kd.R_slice HO.out
        obtain ⟨m, hm⟩ : ∃ m, m = o.length := ⟨_, rfl⟩
        have HM := Aside0.mk hm
        rw [← hm] at HO ⊢
        have HLT := Aside0.mk hlt
        clear hx hy hxd hlt hic hm hi
        go_wp2_with fail
        clear hxc d1 d2 d3 d4 d5 k2 k3
        go_loopw [7, 8, 9, 10, 11, 12, 49] (fun v7 v8 v9 v10 v11 v12 v49 wi => ∃ (j : Nat) (o' : List Int) (cy : Int), v49 = .int .i64 (j : Int) ∧ v7 = .int .u64 cy ∧ j ≤ m ∧ Aside0 (InI o y j o' cy) ∧ Aside0 ((Kd.int .u64).R 36 wi w.heap.size (fun k => k ≠ bb) (.slice A m c) o') ∧ Aside0 (Below w.heap.size w wi) ∧ Aside0 (By wi bb cs)) (fun _ _ _ _ _ _ v49 _ => m - (intOf v49).toNat)
        case atStart => exact ⟨0, o, y, rfl, rfl, Nat.zero_le _, ⟨InI.start HP.out.1 HY9.out⟩, HO, HB, HY⟩
        case round =>
          clear HO HB HY
          obtain ⟨j, o', cy, rfl, rfl, hj, HI, HO, HB, HY⟩ := hrel
          by_cases hlj : j < m
          · have hjo : j < o.length := by have := HM.out; omega
            have HJO := Aside0.mk hjo
            have hjo2 : j < o'.length := by rw [HI.out.n]; exact hjo
            obtain ⟨hh, l, dd, kk, e1, e2, e3, e4⟩ := HI.out.step hjo HP.out.1
            obtain ⟨g, cap, eg, hbg, _⟩ := Kd.R_form HO.out (by omega)
            injection eg with eg1 eg2 eg3
            subst eg1
            obtain ⟨xj, hxj⟩ : ∃ x, x = o[j]'HJO.out := ⟨_, rfl⟩
            rw [← hxj] at e1
            obtain ⟨g1, g2⟩ := Kd.R_celln 0 HO.out (j : Int) (by omega) (by omega)
            rw [show rdOf 0 o' (j : Int) = xj by rw [hxj, ← HI.out.at HJO.out]; simp [rdOf, hjo2], Int.toNat_natCast] at g1
            rw [Int.toNat_natCast] at g2
            have k0 : (0 : Int) ≤ (j : Int) := by omega
            have k1 : (j : Int) < (m : Int) := by omega
            have k2 : decide ((j : Int) < (m : Int)) = true := decide_eq_true k1
            have k3 : decide (j < m) = true := decide_eq_true hlj
            have HE1 := Aside0.mk e1
            have HE2 := Aside0.mk e2
            have HE4 := Aside0.mk e4
            have HLJ := Aside0.mk hlj
            have HBG := Aside0.mk hbg
            have HGB := Aside0.mk (show bb ≠ g from fun e => HO.out.1 g rfl e.symm)
            clear e1 e2 e4 hxj hj hjo hjo2 hlj eg2 eg3 hbg
            go_wp2_with fail
            refine (bits_Mul64.calls xj 10 hh l wr HE1.out).mono ?_
            rintro e w5 ⟨rfl, hd5⟩
            have hb5 := hd5.below
            have HO5 := Aside0.mk (Kd.R_below HO.out hb5)
            have HB5 := Aside0.mk (below_step HB.out hb5)
            have HY5 := Aside0.mk (HY.out.below hb5)
            clear g1 g2 hd5 hb5 HO HB HY
            obtain ⟨g1, g2⟩ := Kd.R_celln 0 HO5.out (j : Int) (by omega) (by have := HLJ.out; have := HI.out.n; have := HM.out; omega)
            rw [Int.toNat_natCast] at g1 g2
            have HADD := Aside0.mk (fun W => add_step2 HE2.out W)
            have HP5 := Aside0.mk (Kd.R_putg HO5.out (j : Int) dd)
            rw [Int.toNat_natCast] at HP5
            have hwi := lt_wrap (n := j) (by have := HLJ.out; have := HM.out; have := HP.out.2.2; have := HLT.out; have := HC.out.2.2.1; have := HNS.out; omega)
            have HWI := Aside0.mk hwi
            go_wp2_with ((with_reducible refine gate_callee (f := 13) rfl ?_); refine goesX_ (some 64) rfl rfl #[.int .u64 l, .int .u64 cy, .int .u64 0] rfl (by (try simp only [List.map_toArray, List.map_cons, List.map_nil]); first | done | rfl) ?_; refine (HADD.out _).mono ?_; rintro e w6 ⟨rfl, hw6⟩; subst hw6; refine ⟨_, rfl, ?_⟩)
            go_roundw
            case rel => exact ⟨j + 1, _, hh + kk, by go_num, rfl, HLJ.out, HE4, ⟨HP5.out.1⟩, ⟨HB5.out.grown HP5.out.2 HB5.out.size (fun k hk => by cases hk; exact HBG.out)⟩, ⟨HY5.out.set HGB.out⟩⟩
            case measure => first | exact pmeas HLJ.out | (rw [HWI.out]; exact pmeas HLJ.out)
          · have k2 : decide ((j : Int) < (m : Int)) = false := decide_eq_false (by omega)
            have k3 : decide (j < m) = false := decide_eq_false hlj
            have HD := Aside0.mk (show InI o y o.length o' cy by have e : j = o.length := (by have := HM.out; omega); rw [← e]; exact HI.out)
            have hwi := lt_wrap (n := i) (by have := HLT.out; have := HC.out.2.2.1; have := HNS.out; omega)
            have HWI := Aside0.mk hwi
            clear hlj hj HI
            by_cases hcy : cy = 0
            · have c1 : decide (0 < cy) = false := decide_eq_false (by omega)
              have HCY := Aside0.mk hcy
              clear hcy
              go_wp2_with fail
              go_roundw
              case rel => exact ⟨i + 1, o', _, rfl, by go_num, HLT.out, ⟨HP.out.next HIC.out (by rw [← HYY.out]; exact HD.out) HCY.out⟩, HO, HB, HY⟩
              case measure => first | exact pmeas HLT.out | (rw [HWI.out]; exact pmeas HLT.out)
            · have c1 : decide (0 < cy) = true := decide_eq_true (by have := HD.out.c; omega)
              have HLN := Aside0.mk (show (o'.length + 1) * 8 ≤ 140737488355328 by have := HD.out.n; have := HP.out.2.2; have := HLT.out; have := HC.out.2.2.1; have := HNS.out; omega)
              have HBB := Aside0.mk (show ∀ k, wr.heap.size ≤ k → k ≠ bb from fun k hk e => by have := HY.out.1; omega)
              clear hcy
              go_wp2_with ((with_reducible refine gate_builtin (b := .append) (xs := #[.tmp 74, .tmp 76]) rfl ?_); at_builtin; refine Kd.R_append (Kd.int .u64) (w0 := w) w.heap.size rfl (.tmp 74) (.tmp 76) 23 36 (.int .u64 0) 8 rfl Try.underlying23 info36 rfl (by decide) (by omega) (.slice A m c) o' cy [.int .u64 cy] (fun k => k ≠ bb) (fun _ => False) rfl rfl rfl (fun _ hk => hk.elim) HBB.out HO.out HB.out HB.out.size HLN.out ?_; intro v9 w9 ho9 hb9 hg9 _; have HO9 := Aside0.mk ho9; have HB9 := Aside0.mk hb9; have HY9 := Aside0.mk (HY.out.grown hg9 (fun e => HO.out.1 bb e.symm rfl)); clear ho9 hb9 hg9)
              go_roundw
              case rel => exact ⟨i + 1, o' ++ [cy], v9, rfl, by go_num, HLT.out, ⟨HP.out.more HIC.out (by rw [← HYY.out]; exact HD.out)⟩, HO9, HB9, HY9⟩
              case measure => first | exact pmeas HLT.out | (rw [HWI.out]; exact pmeas HLT.out)
      · have k2 : decide ((i : Int) < (n : Int)) = false := decide_eq_false (by omega)
        have k3 : decide (i < n) = false := decide_eq_false hlt
        have hin : i = cs.length := by have := HNS.out; omega
        have hvd : V o = dec cs.reverse := by have h := HP.out.2.1; rw [hin, List.take_length] at h; exact h
        obtain ⟨A, c, rfl, hrd⟩ := rd_of_R HO.out HP.out.1
        have HRD := Aside0.mk hrd
        have HT := Aside0.mk (told_rd wr hrd (by have := HP.out.2.2; have := HC.out.2.2.1; omega) (by rw [hvd]; exact dec_B (fun x hx => HC.out.1 x (List.mem_reverse.1 hx)) (by rw [List.length_reverse]; exact HC.out.2.2.1)))
        have HVD := Aside0.mk hvd
        clear hlt hi hin hvd hrd
        go_wp2_with fail
        refine HT.out.mono ?_
        rintro e w5 ⟨r, rfl, hw, t1, t2, t3, t4⟩
        have hw2 := hw.symm
        subst hw2
        have HQ := Aside0.mk (And.intro t1 (And.intro t2 (And.intro t3 t4)))
        clear t1 t2 t3 t4 hw
        go_wp2_with fail
        go_ret2
        exact ⟨A, c, r, rfl, HB.out, ⟨HQ.out.1, HQ.out.2.1, HQ.out.2.2.2⟩, by rw [HQ.out.2.2.1, HVD.out]⟩
end Go.Proofs.Ytdaelbihfdlgkaa.Nx
