/- Sets of bits: how many are in a set; a set's two parts: the plain laws. -/
import Derived.Test.YtdlkcohfgfnkbaaDoorPc
import Derived.Test.YtdlkcohfgfnkbaaDoorBq
namespace Go.Proofs.YtdlkcohfgfnkbaaDoor.Bp
open Go.RowKit Go.Proofs.YtdlkcohfgfnkbaaDoor.PBitsetTells Go.Proofs.YtdlkcohfgfnkbaaDoor.Pc Go.Proofs.YtdlkcohfgfnkbaaDoorW.PrintWords Go.Proofs.YtdlkcohfgfnkbaaDoorW.PrintLast Go.Proofs.YtdlkcohfgfnkbaaDoorW.PrintMore
set_option linter.unusedSimpArgs false
set_option linter.unusedVariables false

def cnt : List Int → Nat
  | [] => 0
  | x :: l => pcb x.toNat 64 + cnt l
theorem cnt_le : ∀ l : List Int, cnt l ≤ 64 * l.length
  | [] => Nat.le_refl _
  | x :: l => by
    have := cnt_le l
    have := pcb_le x.toNat 64
    unfold cnt
    simp only [List.length_cons]
    omega
theorem count_l0 (ws : List Int) (hw : Wf ws) (hl : ws.length ≤ 140737488351232) : ∀ (d i c : Nat), i + d = ws.length → c ≤ 64 * i →
    Ev (fun k => bitset_Count.l0 k (c : Int) ws (ws.length : Int) (i : Int)) ((c + cnt (ws.drop i) : Nat) : Int)
  | 0, i, c, hi, hc => by
    rw [show i = ws.length by omega, List.drop_length]
    refine Ev.step (fun k => ?_) (Ev.now _)
    simp only [bitset_Count.l0]
    rw [if_neg (by omega)]
    rfl
  | d + 1, i, c, hi, hc => by
    obtain ⟨h0, h1⟩ := hw _ (rd_mem ws i (by omega))
    have hp := pcb_le (rd ws (i : Int)).toNat 64
    have ih := count_l0 ws hw hl d (i + 1) (c + pcb (rd ws (i : Int)).toNat 64) (by omega) (by omega)
    rw [rd_drop ws i (by omega)]
    unfold cnt
    rw [← Nat.add_assoc]
    refine Ev.step (fun k => ?_) ih
    simp only [bitset_Count.l0]
    have ho : bits_OnesCount64.f (rd ws (i : Int)) = some ((pcb (rd ws (i : Int)).toNat 64 : Nat) : Int) := by
      have := ones (rd ws (i : Int)).toNat (by omega)
      rwa [show (((rd ws (i : Int)).toNat : Nat) : Int) = rd ws (i : Int) by omega] at this
    rw [if_pos (by omega), if_pos (by omega), if_pos (by omega), ho, Option.bind_some, wrap64_small (by omega) (by omega), wrap64_small (by omega) (by omega), Int.natCast_add]
    rfl
def countS (N : Int) (ws : List Int) : Int := if rightB N ws = true then (cnt ws : Int) else 0
theorem prog_count (N : Int) (ws : List Int) (hw : Wf ws) (hl : ws.length ≤ 140737488351232) : Ev (fun k => bitset_Count.f k N ws) (countS N ws) := by
  unfold countS bitset_Count.f
  rw [prog_right N ws hw hl]
  cases h : rightB N ws with
  | false =>
    rw [if_neg (by decide)]
    exact Ev.congr (f := fun _ => some 0) (fun k => by rw [Option.bind_some, if_neg (by decide)]) (Ev.now _)
  | true =>
    rw [if_pos rfl]
    have := count_l0 ws hw hl ws.length 0 0 (by omega) (by omega)
    rw [Nat.zero_add, List.drop_zero] at this
    exact Ev.congr (fun k => by rw [Option.bind_some, if_pos rfl]; rfl) this
end Go.Proofs.YtdlkcohfgfnkbaaDoor.Bp
