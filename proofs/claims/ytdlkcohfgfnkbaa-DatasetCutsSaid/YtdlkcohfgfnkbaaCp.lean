/- DatasetCuts: the plain law: the rows to the left of cuts, as sets of bits; how an argument that is two ints is opened. -/
import Derived.Test.YtdlkcohfgfnkbaaLq
import Derived.Test.YtdlkcohfgfnkbaaBs
import Derived.Test.YtdlkcohfgfnkbaaOpn
import Derived.WideShapes
import Derived.OpenShut
namespace Go.Proofs.Ytdlkcohfgfnkbaa.Cp
open Go.ChangeShapes Go.WideShapes Go.RowKit Go.Proofs.Ytdlkcohfgfnkbaa.PDatasetJoins Go.Proofs.Ytdlkcohfgfnkbaa.Tp Go.Proofs.Ytdlkcohfgfnkbaa.Lp Go.Proofs.Ytdlkcohfgfnkbaa.Pc Go.Proofs.YtdlkcohfgfnkbaaW.PrintWords Go.Proofs.YtdlkcohfgfnkbaaW.PrintLast Go.Proofs.YtdlkcohfgfnkbaaW.PrintMore
open Go.Proofs.Ytdlkcohfgfnkbaa.Bp (Wf wbit ofS cnt countS rightB op_minus OpBit pick3)
set_option linter.unusedSimpArgs false
set_option linter.unusedVariables false

theorem leL_mem (c : List Int) (cut : Int) : ∀ (i : Nat) (x : Int), x ∈ leL c cut i ↔ ∃ j : Nat, j < i ∧ x = (j : Int) ∧ rd c (j : Int) ≤ cut
  | 0, x => ⟨(fun h => by cases h), fun ⟨j, h, _⟩ => by omega⟩
  | i + 1, x => by
    rw [leL_succ, List.mem_append, leL_mem c cut i x]
    constructor
    · rintro (⟨j, h1, h2, h3⟩ | h)
      · exact ⟨j, by omega, h2, h3⟩
      · split at h
        · rename_i hc
          rw [List.mem_singleton] at h
          exact ⟨i, by omega, h, hc⟩
        · cases h
    · rintro ⟨j, h1, h2, h3⟩
      by_cases e : j = i
      · right
        subst e
        rw [if_pos h3, List.mem_singleton]
        exact h2
      · exact Or.inl ⟨j, by omega, h2, h3⟩
theorem bits_law (n : Nat) (h : n ≤ 256) (c : List Int) (cut : Int) : ∃ ws, ofS (n : Int) (leL c cut n) = ((n : Int), ws, 0) ∧ Wf ws ∧ rightB (n : Int) ws = true ∧ ws.length = (n + 63) / 64 ∧ ∀ j : Nat, wbit ws j = (decide (j < n) && decide (rd c (j : Int) ≤ cut)) := by
  have hl : (((n : Int) + 63) / 64).toNat = (n + 63) / 64 := by omega
  have hz : (List.replicate ((n + 63) / 64) (0 : Int)).length = (n + 63) / 64 := List.length_replicate
  have hmem : ∀ e ∈ leL c cut n, 0 ≤ e ∧ e < (n : Int) := fun e he => by
    obtain ⟨j, h1, h2, _⟩ := (leL_mem c cut n e).1 he
    omega
  have hbit : ∀ j : Nat, wbit ((leL c cut n).foldl (fun w e => Bp.setB w e.toNat) (List.replicate ((n + 63) / 64) 0)) j = (decide (j < n) && decide (rd c (j : Int) ≤ cut)) := fun j => by
    rw [Bp.fold_bit _ _ j (fun e he => by
      obtain ⟨q, h1, h2, _⟩ := (leL_mem c cut n e).1 he
      rw [hz]
      omega), Bp.wbit_zeros, Bool.false_or, ← Bool.decide_and]
    apply decide_eq_decide.2
    rw [leL_mem]
    exact ⟨fun ⟨q, h1, h2, h3⟩ => by
      have : q = j := by omega
      subst this
      exact ⟨h1, h3⟩, fun ⟨h1, h3⟩ => ⟨j, h1, rfl, h3⟩⟩
  refine ⟨(leL c cut n).foldl (fun w e => Bp.setB w e.toNat) (List.replicate ((n + 63) / 64) 0), ?_, Bp.fold_wf _ _ (Wf.zeros _), ?_, by rw [Bp.fold_length, hz], hbit⟩
  · unfold Bp.ofS
    rw [if_neg (by omega), hl]
    exact Bp.ofL_good _ _ _ hmem
  · refine decide_eq_true ⟨by omega, by omega, by rw [Bp.fold_length, hz]; omega, fun i _ hi => ?_⟩
    rw [hbit i, decide_eq_false (by omega)]
    rfl
theorem minus_none (a b : List Int) (ha : Wf a) (hb : Wf b) (hl : a.length = b.length) (h : ∀ j, wbit a j = true → wbit b j = true) : cnt (List.zipWith (Go.bits .andNot .u64) a b) = 0 := by
  refine Bp.cnt_zero _ (Bp.zip_wf op_minus ha hb) (fun i _ => ?_)
  rw [Bp.zip_bit op_minus ha hb hl i]
  have := h i
  cases h1 : wbit a i <;> cases h2 : wbit b i
  · rfl
  · rfl
  · rw [h1, h2] at this; cases this rfl
  · rfl
theorem pcb_full (x N : Nat) : ∀ n, (∀ j, j < n → x.testBit j = decide (j < N)) → pcb x n = min N n
  | 0, _ => by unfold pcb; omega
  | n + 1, h => by
    unfold pcb
    rw [pcb_full x N n (fun j hj => h j (by omega)), h n (by omega)]
    by_cases e : n < N
    · rw [decide_eq_true e, if_pos rfl]; omega
    · rw [decide_eq_false e, if_neg (by decide)]; omega
theorem cnt_full : ∀ (ws : List Int) (N : Nat), N ≤ 64 * ws.length → (∀ j, j < 64 * ws.length → wbit ws j = decide (j < N)) → cnt ws = N
  | [], N, h, _ => by unfold Bp.cnt; simp at h; omega
  | x :: r, N, h, hb => by
    have h1 : pcb x.toNat 64 = min N 64 := pcb_full _ _ _ (fun j hj => by
      have := hb j (by simp only [List.length_cons]; omega)
      unfold Bp.wbit at this
      rw [show j / 64 = 0 by omega, show j % 64 = j by omega] at this
      exact this)
    have h2 := cnt_full r (N - 64) (by simp only [List.length_cons] at h; omega) (fun j hj => by
      have := hb (j + 64) (by simp only [List.length_cons]; omega)
      unfold Bp.wbit at this ⊢
      rw [show (j + 64) / 64 = j / 64 + 1 by omega, show (j + 64) % 64 = j % 64 by omega, List.getD_cons_succ] at this
      rw [this]
      exact decide_eq_decide.2 (by omega))
    unfold Bp.cnt
    rw [h1, h2]
    omega
set_option maxRecDepth 100000 in
theorem open_two (j : Nat) {H : Type} {enc : TypeId × Value → H} {W : World} {base r0 : Nat} {r : Reach} {spare : Nat → Bool} {held : Bool} {ts : List TypeId} {ds : List (DataW H)} {dd : DataW H} {p : List MemPlace} (hj : ts[j]? = some 54) (hd : ds[j]? = some dd)
    {v : Value} (hv : Value.okWide Try.prog W r r0 54 v) (h : DataW.Trod enc Try.prog W base spare held 54 v dd p) (hsz : (DataW.weightsEach Try.prog ts ds).all (· ≤ reachBytes) = true) :
    ∃ x : Int × Int, v = .agg #[.int .i64 x.1, .int .i64 x.2] ∧ True := by
  have ht : Try.prog.underlying 54 = some (.array 2 3) := Try.underlying54
  simp only [Value.okWide, ht] at hv
  obtain ⟨cs, rfl, hcs, _⟩ := hv
  obtain ⟨fuel, hf⟩ := h
  obtain ⟨xs, m, _, _, hl, hx, hel⟩ := DataW.trod_array ht hf
  have c3 : Try.prog.cellsOf 3 = 1 := by kernel_rfl
  have c54 : Try.prog.cellsOf 54 = 2 := by kernel_rfl
  have e0 := hel 0 (by omega)
  have e1 := hel 1 (by omega)
  rw [c3, List.getElem?_eq_getElem (by omega)] at e0 e1
  obtain ⟨x0, q0, _, _⟩ := DataW.trod_int Try.underlying3 e0
  obtain ⟨x1, q1, _, _⟩ := DataW.trod_int Try.underlying3 e1
  rw [c54] at hcs
  refine ⟨(x0, x1), ?_, trivial⟩
  have hcl : cs.toList.length = 2 := by simpa using hcs
  obtain ⟨u, v, huv⟩ : ∃ u v, cs.toList = [u, v] := by
    match hq : cs.toList, hcl with
    | [u, v], _ => exact ⟨u, v, rfl⟩
  have hvc : (Value.agg cs).cells.toList = [u, v] := huv
  rw [hvc] at q0 q1
  simp at q0 q1
  subst q0 q1
  rw [← Array.toArray_toList (xs := cs), huv]
end Go.Proofs.Ytdlkcohfgfnkbaa.Cp
