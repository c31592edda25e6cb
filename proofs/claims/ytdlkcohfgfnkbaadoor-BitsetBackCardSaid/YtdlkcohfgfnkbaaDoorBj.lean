/- Sets of bits: bitset.join and its callers: the walks. -/
import Derived.Test.YtdlkcohfgfnkbaaDoorBr
import Derived.Outline
import Derived.StillTailTactics
namespace Go.Proofs.YtdlkcohfgfnkbaaDoor.Bj
open Go.RowKit Go.Proofs.YtdlkcohfgfnkbaaDoor.PBitsetTells Go.Proofs.YtdlkcohfgfnkbaaDoor.Bp Go.Proofs.YtdlkcohfgfnkbaaDoorW.PrintWords Go.Proofs.YtdlkcohfgfnkbaaDoorW.PrintLast Go.Proofs.YtdlkcohfgfnkbaaDoorW.PrintMore
set_option linter.unusedSimpArgs false
set_option linter.unusedVariables false
set_option linter.unusedSimpArgs false

theorem box_cell {w W : World} {vs : Array Value} {t : Nat} (h : Below (w.alloc (.cells vs t)).heap.size (w.alloc (.cells vs t)) W) (j : Nat) (v : Value) (hv : vs[j]? = some v) : W.cell? ⟨w.heap.size, j, none⟩ = some v := by
  rw [h.cell (p := ⟨w.heap.size, j, none⟩) (show w.heap.size < (w.alloc (.cells vs t)).heap.size by simp), World.cell?_alloc_mark, hv]

theorem R_set2 {w : World} {base base' g : Nat} {v : Value} {xs : List Int} (h : (Kd.int .u64).R 30 w base (fun _ => True) v xs) (hg : g < base) (i j : Nat) (x y : Value) (hb : base' ≤ base) : (Kd.int .u64).R 30 ((w.setCell ⟨g, i, none⟩ x).setCell ⟨g, j, none⟩ y) base' (fun _ => True) v xs := by
  have h1 := Kd.R_bound h
  have h2 := Kd.R_far h1 (p := ⟨g, i, none⟩) (fun k hk => by have := hk.2.1; show k ≠ g; omega) x
  have h3 := Kd.R_far h2 (p := ⟨g, j, none⟩) (fun k hk => by have := hk.2.1; show k ≠ g; omega) y
  exact Kd.R_lower (Kd.R_mono h3 (fun _ _ => trivial)) hb

theorem fill_step (z : List Int) (i g : Nat) (hi : i < z.length) (v : Int) (hv : v = z.getD i 0) : (z.take i ++ List.replicate (g + 1) 0).set i v = z.take (i + 1) ++ List.replicate g 0 := by
  have hl : (z.take i).length = i := by rw [List.length_take]; omega
  rw [List.set_append_right _ _ (by omega), hl, Nat.sub_self, List.replicate_succ, List.set_cons_zero, List.take_succ_eq_append_getElem hi, List.append_assoc]
  congr 1
  rw [hv, List.getD_eq_getElem?_getD, List.getElem?_eq_getElem hi]
  rfl
theorem grown_drew {w W : World} {row : Option Nat} (h : w.grownBy W row) : w.grownBy W.drew row := ⟨h.os, h.tape, h.output, h.size, h.block⟩
end Go.Proofs.YtdlkcohfgfnkbaaDoor.Bj
