/- FrameSums: the table of frame.Sum, and its walk. -/
import Derived.Test.YtekakngojhnleaaProg
import Derived.Test.YtekakngojhnleaaWWords
import Derived.Outline
import Derived.Deep.LoopGhost
import Derived.Deep.WholeRow
import Derived.Laws.CopyOwn
namespace Go.Proofs.Ytekakngojhnleaa.Tb
open Go.RowKit Go.Proofs.YtekakngojhnleaaW.PrintWords
set_option linter.unusedSimpArgs false
set_option linter.unusedVariables false

theorem zero83 : (∀ w, (zeroValue 83).run Try.prog w = .ok (.agg (Array.replicate 256 (.int .u32 0))) w) ∧ (Try.prog.info? 83).map (·.size) = some 256 :=
  zero_of_info (by kernel_rfl)
theorem under83 : Try.prog.underlying 83 = some (.array 256 31) := by kernel_rfl

/-- One bit's step. -/
def tstep (r : Int) : Int := bits .xor .u32 (r / 2) (bits .and .u32 3988292384 (-bits .and .u32 r 1 % 4294967296))
def titer : Nat → Int → Int
  | 0, r => r
  | k + 1, r => titer k (tstep r)
/-- The table's numbers when n of them are filled. -/
def tnum (n j : Nat) : Int := if j < n then titer 8 (j : Int) else 0
def tlist : Nat → Nat → Nat → List Value
  | _, _, 0 => []
  | n, j, m + 1 => .int .u32 (tnum n j) :: tlist n (j + 1) m
theorem tlist_length (n : Nat) : ∀ (m j : Nat), (tlist n j m).length = m
  | 0, _ => rfl
  | m + 1, j => by rw [tlist, List.length_cons, tlist_length n m]
theorem tlist_get (n : Nat) : ∀ (m j i : Nat), i < m → (tlist n j m)[i]? = some (.int .u32 (tnum n (j + i)))
  | 0, _, _, h => by omega
  | m + 1, j, 0, _ => by rw [tlist]; simp
  | m + 1, j, i + 1, h => by
    rw [tlist, List.getElem?_cons_succ, tlist_get n m (j + 1) i (by omega)]
    rw [show j + 1 + i = j + (i + 1) by omega]
/-- The table's cells when n of them are filled. -/
def tcells (n : Nat) : Array Value := ⟨tlist n 0 256⟩
theorem tcells_size (n : Nat) : (tcells n).size = 256 := tlist_length n 256 0
theorem tcells_get (n i : Nat) (h : i < 256) : (tcells n)[i]? = some (.int .u32 (tnum n i)) := by
  have := tlist_get n 256 0 i h
  rw [Nat.zero_add] at this
  simpa [tcells] using this
theorem tcells_zero : Array.replicate 256 (Value.int .u32 0) = tcells 0 := by
  apply Array.ext_getElem?
  intro i
  rw [Array.getElem?_replicate]
  by_cases h : i < 256
  · rw [if_pos h, tcells_get 0 i h]; simp [tnum]
  · rw [if_neg h, Array.getElem?_eq_none (by rw [tcells_size]; omega)]
theorem tcells_set (i : Nat) (hi : i < 256) : (tcells i).setIfInBounds i (.int .u32 (titer 8 (i : Int))) = tcells (i + 1) := by
  apply Array.ext_getElem?
  intro j
  rw [Array.getElem?_setIfInBounds]
  by_cases hj : j < 256
  · rw [tcells_get _ j hj, tcells_get _ j hj]
    by_cases e : i = j
    · subst e
      rw [if_pos rfl, if_pos (by rw [tcells_size]; exact hj)]
      simp [tnum]
    · rw [if_neg e]
      unfold tnum
      by_cases h1 : j < i
      · rw [if_pos h1, if_pos (by omega)]
      · rw [if_neg h1, if_neg (by omega)]
  · rw [Array.getElem?_eq_none (by rw [tcells_size]; omega), Array.getElem?_eq_none (by rw [tcells_size]; omega), if_neg (by omega)]
theorem tcells_one (n : Nat) : (tcells n).all (·.oneCell') = true := by
  rw [Array.all_eq_true]
  intro i hi
  have h1 : i < 256 := by rw [tcells_size] at hi; exact hi
  have h2 := tcells_get n i h1
  rw [Array.getElem?_eq_getElem hi] at h2
  rw [Option.some.inj h2]
  rfl

set_option maxRecDepth 100000 in
set_option maxHeartbeats 400000 in
/-- frame.table: the whole table, by value. -/
theorem table_calls (w : World) : Calls Try.prog 45 #[] w fun e w' => e = .returned (.agg (tcells 256)) ∧ Below w.heap.size w w' := by
  have hz := zero83.1
  go_enter Try.func45, Try.ntmps45
  go_wp2_with fail
  rw [tcells_zero]
  clear hz
  go_loopg [4] 256 (fun g v4 wx => ∃ i : Nat, i + g = 256 ∧ v4 = .int .i64 i ∧ wx = (w.alloc (.cells (tcells 0) 83)).alloc (.cells (tcells i) 83))
  case atStart => exact ⟨0, by omega, rfl, rfl⟩
  case round =>
    obtain ⟨i, hig, rfl, rfl⟩ := hrel
    obtain ⟨C, hC⟩ : ∃ C, C = tcells i := ⟨_, rfl⟩
    obtain ⟨C0, hC0⟩ : ∃ C, C = tcells 0 := ⟨_, rfl⟩
    have hs0 : C0.size = 256 := by rw [hC0]; exact tcells_size 0
    have hs : C.size = 256 := by rw [hC]; exact tcells_size i
    have HC := Aside0.mk hC
    have HC0 := Aside0.mk hC0
    rw [← hC, ← hC0]
    cases gk with
    | zero =>
      have hie : i = 256 := by omega
      have h1 : C.all (·.oneCell') = true := by rw [hC]; exact tcells_one i
      have hB : Below w.heap.size w (((w.alloc (.cells C0 83)).alloc (.cells C 83)).setRow w.heap.size C) :=
        below_setRow (((Below.refl _ w).alloc (Nat.le_refl _) _).alloc (Nat.le_of_lt (by simp)) _) (Nat.le_refl _) _
      have hg0 : ((w.alloc (.cells C0 83)).alloc (.cells C 83)).heap[w.heap.size]? = some (.cells C0 83 (0, 0)) := heap_alloc2_old w _ _
      have hg1 : ((w.alloc (.cells C0 83)).alloc (.cells C 83)).heap[w.heap.size + 1]? = some (.cells C 83 (0, 0)) := heap_alloc2_new w _ _
      have HA := Aside0.mk (And.intro h1 (And.intro hB (And.intro hg0 hg1)))
      have HE := Aside0.mk (show C = tcells 256 by rw [hC, hie])
      clear hC hC0 h1 hB hg0 hg1 HC HC0
      have hlt : ¬ (i : Int) < 256 := by omega
      have hs := Aside0.mk hs
      have hs0 := Aside0.mk hs0
      clear hie
      go_wp2_with (first | (refine wpList_load_row rfl 83 (.tmp 1) rfl (w.heap.size + 1) rfl 83 C (0, 0) _ HA.out.2.2.2 under83 rfl (by rw [hs.out]; exact zero83.2) ?_) | (refine wpList_store_row rfl 83 (.tmp 0) (.tmp 23) rfl w.heap.size C rfl rfl 83 C0 HA.out.2.2.1 (by rw [hs.out]; exact zero83.2) (by rw [hs.out, hs0.out]) HA.out.1 ?_))
      refine bodyPost_ret (v := .agg C) ?_ rfl ?_
      · exact results_cell_row rfl _ _ w.heap.size 83 C (0, 0) _ rfl (setRow_heap _ _ C0 C 83 (0, 0) HA.out.2.2.1) under83 rfl (by rw [hs.out]; exact zero83.2)
      · exact ⟨by rw [HE.out], HA.out.2.1⟩
    | succ g =>
      have hi : (i : Int) < 256 := by omega
      obtain ⟨t, ht⟩ : ∃ t, t = titer 8 (i : Int) := ⟨_, rfl⟩
      have HT := Aside0.mk ht
      have hcell : C[i]? = some (.int .u32 (tnum i i)) := by rw [hC]; exact tcells_get i i (by omega)
      clear ht hC hC0 hs0 hs
      go_wp2_with fail
      go_loopg [3, 9] 8 (fun h v3 v9 wx => ∃ (j : Nat) (r : Int), j + h = 8 ∧ v3 = .int .u32 r ∧ v9 = .int .i64 j ∧ Aside0 (titer h r = t) ∧ wx = (w.alloc (.cells C0 83)).alloc (.cells C 83))
      case atStart => exact ⟨0, (i : Int), by omega, rfl, rfl, ⟨HT.out.symm⟩, rfl⟩
      case round =>
        obtain ⟨j, r, hj, rfl, rfl, hr, rfl⟩ := hrel
        cases gk with
        | zero =>
          obtain rfl : j = 8 := by omega
          have hr2 : r = t := hr.out
          subst hr2
          go_wp2
          go_roundg g
          case measure => omega
          case rel => exact ⟨i + 1, by omega, by first | rfl | simp, by rw [HC0.out, HC.out, HT.out, tcells_set i (by omega)]⟩
        | succ h =>
          have hj8 : (j : Int) < 8 := by omega
          go_wp2
          go_roundg h
          case measure => omega
          case rel => exact ⟨j + 1, tstep r, by omega, rfl, by first | rfl | simp, ⟨hr.out⟩, rfl⟩
end Go.Proofs.Ytekakngojhnleaa.Tb
