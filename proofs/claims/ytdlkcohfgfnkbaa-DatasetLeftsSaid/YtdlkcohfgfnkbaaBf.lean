/- Sets of bits: the plain laws of Full and New. -/
import Derived.Test.YtdlkcohfgfnkbaaBr
import Derived.Test.YtdlkcohfgfnkbaaFns
namespace Go.Proofs.Ytdlkcohfgfnkbaa.Bp
open Go.RowKit Go.Proofs.Ytdlkcohfgfnkbaa.PBitsetJoins Go.Proofs.Ytdlkcohfgfnkbaa.Fns Go.Proofs.YtdlkcohfgfnkbaaW.PrintWords Go.Proofs.YtdlkcohfgfnkbaaW.PrintLast Go.Proofs.YtdlkcohfgfnkbaaW.PrintMore
set_option linter.unusedSimpArgs false
set_option linter.unusedVariables false

theorem ref_new (N : Int) : Ev (fun k => windbreakref14_New.f k N) (ofS N []) := Ev.bind (ref_of N [] (by simp)) (Ev.now _)
/-- The whole set's word i. -/
def fullW (N i : Nat) : Int := if N - 64 * i < 64 then ((2 ^ (N - 64 * i) - 1 : Nat) : Int) else 18446744073709551615
def fullL (N : Nat) : List Int := (List.range ((N + 63) / 64)).map (fullW N)
theorem fullW_range (N i : Nat) : 0 ≤ fullW N i ∧ fullW N i < 18446744073709551616 := by
  unfold fullW
  split
  · rename_i h
    have : 2 ^ (N - 64 * i) < 18446744073709551616 := Nat.pow_lt_pow_right (n := 64) (by omega) (by omega)
    generalize 2 ^ (N - 64 * i) = p at this
    omega
  · decide
theorem fullW_bit (N i j : Nat) (hi : 64 * i < N) (hj : j < 64) : (fullW N i).toNat.testBit j = decide (64 * i + j < N) := by
  unfold fullW
  split
  · rw [Int.toNat_natCast, Nat.testBit_two_pow_sub_one]
    apply decide_eq_decide.2
    omega
  · rw [show (18446744073709551615 : Int).toNat = 2 ^ 64 - 1 from rfl, Nat.testBit_two_pow_sub_one]
    apply decide_eq_decide.2
    omega
theorem fullL_len (N : Nat) : (fullL N).length = (N + 63) / 64 := by simp [fullL]
theorem fullL_wf (N : Nat) : Wf (fullL N) := by
  intro x hx
  unfold fullL at hx
  rw [List.mem_map] at hx
  obtain ⟨i, _, rfl⟩ := hx
  exact fullW_range N i
theorem fullL_get (N i : Nat) (hi : i < (N + 63) / 64) : (fullL N).getD i 0 = fullW N i := by
  unfold fullL
  rw [List.getD_eq_getElem?_getD, List.getElem?_map, List.getElem?_range hi]
  rfl
theorem fullL_bit (N i : Nat) (hi : i < 64 * ((N + 63) / 64)) : wbit (fullL N) i = decide (i < N) := by
  unfold wbit
  rw [fullL_get N (i / 64) (by omega), fullW_bit N (i / 64) (i % 64) (by omega) (by omega)]
  apply decide_eq_decide.2
  omega
def fullS (N : Int) : Int × List Int × Int := if N < 0 ∨ 65536 < N then (0, [], 1) else (N, fullL N.toNat, 0)
theorem ofS_full (N : Int) (h : ¬ (N < 0 ∨ 65536 < N)) : ofS N (sel (fun _ => true) 0 N.toNat) = fullS N := by
  unfold fullS
  rw [if_neg h]
  refine ofS_sel N (by omega) (by omega) (fun _ => true) (fullL N.toNat) (fullL_wf _) (by rw [fullL_len]; omega) (fun i hi => ?_)
  rw [fullL_len] at hi
  rw [fullL_bit _ _ hi, Bool.and_true]
  apply decide_eq_decide.2
  omega
theorem full_l0 (N : Int) : ∀ (d i : Nat) (acc : List Int), i + d = min N.toNat 65537 → acc.length ≤ i →
    Ev (fun k => windbreakref14_Full.l0 k N acc (i : Int)) (ofS N (acc ++ sel (fun _ => true) i d))
  | 0, i, acc, hi, hacc => by
    have h := ref_of N acc (by omega)
    rw [sel, List.append_nil]
    refine Ev.step (f := fun k => (windbreakref14_Of.f k N acc).bind fun t => some (t.1, t.2.1, t.2.2)) (fun k => ?_) (Ev.bind h (Ev.now _))
    simp only [windbreakref14_Full.l0]
    by_cases h1 : (i : Int) < N
    · rw [if_pos h1, if_neg (by omega)]
    · rw [if_neg h1]
  | d + 1, i, acc, hi, hacc => by
    have ih := full_l0 N d (i + 1) (acc ++ [(i : Int)]) (by omega) (by simp; omega)
    rw [List.append_assoc] at ih
    refine Ev.step (fun k => ?_) ih
    simp only [windbreakref14_Full.l0]
    rw [if_pos (by omega), if_pos (by omega), if_pos (by omega), wrap64_small (by omega) (by omega)]
    rfl
theorem ref_full (N : Int) : Ev (fun k => windbreakref14_Full.f k N) (fullS N) := by
  have h := full_l0 N (min N.toNat 65537) 0 [] (by omega) (by simp)
  have e : ofS N ([] ++ sel (fun _ => true) 0 (min N.toNat 65537)) = fullS N := by
    rw [List.nil_append]
    by_cases hN : N < 0 ∨ 65536 < N
    · unfold ofS fullS
      rw [if_pos hN, if_pos hN]
    · rw [show min N.toNat 65537 = N.toNat by omega, ofS_full N hN]
  rw [e] at h
  exact h
theorem set_next (A : List Int) (g : Nat) (v : Int) : (A ++ List.replicate (g + 1) 0).set A.length v = (A ++ [v]) ++ List.replicate g 0 := by
  rw [List.set_append_right _ _ (by omega), Nat.sub_self, List.replicate_succ, List.set_cons_zero, List.append_assoc]
  rfl
theorem prog_l0 (N : Nat) (hN : N ≤ 65536) : ∀ (g i : Nat), i + g = (N + 63) / 64 →
    Ev (fun k => bitset_Full.l0 k (N : Int) 0 (((N + 63) / 64 : Nat) : Int) (i : Int) (N : Int) ((List.range i).map (fullW N) ++ List.replicate g 0)) ((N : Int), fullL N, 0)
  | 0, i, hi => by
    refine Ev.step (fun k => ?_) (Ev.now _)
    simp only [bitset_Full.l0]
    rw [if_neg (by omega), show i = (N + 63) / 64 by omega, List.replicate_zero, List.append_nil]
    rfl
  | g + 1, i, hi => by
    have ih := prog_l0 N hN g (i + 1) (by omega)
    have hAl : ((List.range i).map (fullW N)).length = i := by simp
    have hset : ∀ v, ((List.range i).map (fullW N) ++ List.replicate (g + 1) 0).set i v = ((List.range i).map (fullW N) ++ [v]) ++ List.replicate g 0 := by
      intro v
      have := set_next ((List.range i).map (fullW N)) g v
      rwa [hAl] at this
    have hset2 : ∀ u v, (((List.range i).map (fullW N) ++ [u]) ++ List.replicate g 0).set i v = ((List.range i).map (fullW N) ++ [v]) ++ List.replicate g 0 := by
      intro u v
      rw [List.set_append_left _ _ (by simp), List.set_append_right _ _ (by rw [hAl]; omega), hAl, Nat.sub_self]
      rfl
    have hlen : ((List.range i).map (fullW N) ++ List.replicate (g + 1) 0).length = i + (g + 1) := by simp
    rw [List.range_succ, List.map_append, List.map_cons, List.map_nil] at ih
    refine Ev.step (fun k => ?_) ih
    simp only [bitset_Full.l0]
    have hw : wrap64 ((N : Int) - wrap64 (64 * (i : Int))) = ((N - 64 * i : Nat) : Int) := by
      rw [wrap64_small (x := 64 * (i : Int)) (by omega) (by omega), wrap64_small (by omega) (by omega)]
      omega
    rw [if_pos (by omega), if_pos (by omega), hlen, if_pos (by omega), Option.bind_some, Int.toNat_natCast, hset, hw, wrap64_small (by omega) (by omega)]
    by_cases hl : N - 64 * i < 64
    · rw [if_pos (by omega), if_pos (by omega), hset2]
      have hv : IntKind.u64.wrap (shl .u64 1 ((N - 64 * i : Nat) : Int) - 1) = fullW N i := by
        unfold fullW shl
        rw [if_pos hl, Int.toNat_natCast, Nat.min_eq_left (show N - 64 * i ≤ IntKind.u64.bits by show _ ≤ 64; omega), Int.one_mul]
        have hp : 2 ^ (N - 64 * i) < 18446744073709551616 := Nat.pow_lt_pow_right (n := 64) (by omega) (by omega)
        have hp1 : 0 < 2 ^ (N - 64 * i) := Nat.two_pow_pos _
        rw [show (2 : Int) ^ (N - 64 * i) = ((2 ^ (N - 64 * i) : Nat) : Int) by rw [Int.natCast_pow]; rfl]
        generalize 2 ^ (N - 64 * i) = p at hp hp1 ⊢
        rw [IntKind.wrap_u64, IntKind.wrap_u64]
        omega
      rw [hv]
      rfl
    · rw [if_neg (by omega)]
      have hv : fullW N i = 18446744073709551615 := by unfold fullW; rw [if_neg hl]
      rw [hv]
      rfl
theorem prog_full (N : Int) : Ev (fun k => bitset_Full.f k N) (fullS N) := by
  unfold fullS bitset_Full.f
  rw [prog_new]
  by_cases h : N < 0 ∨ 65536 < N
  · rw [if_pos h, if_pos h]
    refine Ev.congr (f := fun k => bitset_Full.l0 k N 1 0 0 0 []) (fun k => rfl) (Ev.step (fun k => ?_) (Ev.now _))
    simp only [bitset_Full.l0]
    rfl
  · rw [if_neg h, if_neg h]
    obtain ⟨n, rfl⟩ : ∃ n : Nat, N = (n : Int) := ⟨N.toNat, by omega⟩
    have := prog_l0 n (by omega) ((n + 63) / 64) 0 (by omega)
    rw [Int.toNat_natCast]
    refine Ev.congr (fun k => ?_) this
    rw [Option.bind_some, show (((n : Int) + 63) / 64).toNat = (n + 63) / 64 by omega, List.length_replicate]
    rfl
theorem fullS_len (N : Int) : (fullS N).2.1.length ≤ 140737488351232 := by
  unfold fullS
  split
  · exact Nat.zero_le _
  · show (fullL N.toNat).length ≤ _
    rw [fullL_len]
    omega
theorem ofS_len (N : Int) (l : List Int) : (ofS N l).2.1.length ≤ 140737488351232 := by
  unfold ofS
  split
  · exact Nat.zero_le _
  · have : ∀ (l ws : List Int), (ofL N ws l).2.1.length ≤ ws.length := by
      intro l
      induction l with
      | nil => intro ws; exact Nat.le_refl _
      | cons e l ih =>
        intro ws
        unfold ofL
        split
        · exact Nat.zero_le _
        · have := ih (setB ws e.toNat)
          rwa [setB_length] at this
    refine Nat.le_trans (this l _) ?_
    rw [List.length_replicate]
    omega
theorem ofS_nil (N : Int) : ofS N [] = if N < 0 ∨ 65536 < N then (0, [], 1) else (N, List.replicate ((N + 63) / 64).toNat 0, 0) := rfl
end Go.Proofs.Ytdlkcohfgfnkbaa.Bp
