/- Whether all are numbers; a number copied. -/
import Derived.Test.YtdaelbihfdlgkaaNo
import Derived.Test.YtdaelbihfdlgkaaNu
namespace Go.Proofs.Ytdaelbihfdlgkaa.Nc
open Go.RowKit Go.Proofs.Ytdaelbihfdlgkaa.Na Go.Proofs.Ytdaelbihfdlgkaa.Nv Go.Proofs.Ytdaelbihfdlgkaa.Ns Go.Proofs.Ytdaelbihfdlgkaa.Nt Go.Proofs.Ytdaelbihfdlgkaa.Np Go.Proofs.Ytdaelbihfdlgkaa.Nq Go.Proofs.Ytdaelbihfdlgkaa.No Go.Proofs.Ytdaelbihfdlgkaa.Fns Go.Proofs.YtdaelbihfdlgkaaW.PrintWords Go.Proofs.YtdaelbihfdlgkaaW.PrintLast Go.Proofs.YtdaelbihfdlgkaaW.PrintMore
set_option linter.unusedVariables false
set_option linter.unusedSimpArgs false
/-- A number that is read. -/
structure Nm (w : World) (A : Option Addr) (c : Nat) (xs : List Int) : Prop extends Rd w A c xs where
  t : Rt xs
  n : xs.length ≤ 64
theorem Nm.below {w w' : World} {A : Option Addr} {c : Nat} {xs : List Int} (h : Nm w A c xs) (hb : Below w.heap.size w w') : Nm w' A c xs := ⟨h.toRd.below hb, h.t, h.n⟩
theorem right_f {a : List Int} (ra : Rt a) (hl : a.length ≤ 64) : nat_Right.f a = some true := by
  rcases Nat.eq_zero_or_pos a.length with h | h
  · have e : a = [] := List.eq_nil_of_length_eq_zero h
    subst e
    rfl
  · exact Nu.right_ok ra h hl
theorem right1_calls {A : Option Addr} {c : Nat} {a : List Int} (w : World) (h : Nm w A c a) : Calls Try.prog 31 #[.slice A a.length c] w fun e w' => e = .returned (.bool false) ∧ Below w.heap.size w w' := by
  have HC := Aside0.mk (nat_Right.calls A c a true w h.r h.c (right_f h.t h.n))
  clear h
  obtain ⟨n, hn⟩ : ∃ n, n = a.length := ⟨_, rfl⟩
  rw [← hn] at HC ⊢
  clear hn
  go_enter Try.func31, Try.ntmps31
  go_wp2_with fail
  refine HC.out.mono ?_
  rintro e w1 ⟨rfl, hd⟩
  go_wp2_with fail
  go_ret
  exact ⟨rfl, hd.below⟩
theorem right1_enter (args : Array Value) (w : World) : (callFunc 31 args).run Try.prog w = .ok (.enter 31 args) w := enters_ Try.func31 (by kernel_rfl) rfl args w
set_option maxRecDepth 100000 in
set_option maxHeartbeats 1000000 in
/-- Of two numbers none is no number. -/
theorem index2_calls {g cap : Nat} {A0 A1 : Option Addr} {c0 c1 : Nat} {a b : List Int} (w : World) (ha : Nm w A0 c0 a) (hb : Nm w A1 c1 b)
    (g0 : w.cell? ⟨g, 0, none⟩ = some (.slice A0 a.length c0)) (g1 : w.cell? ⟨g, 1, none⟩ = some (.slice A1 b.length c1)) :
    Calls Try.prog 42 #[.slice (some ⟨g, 0, none⟩) 2 cap, .func (.func 31) #[] #[]] w fun e w' => e = .returned (.int .i64 (-1)) ∧ Below w.heap.size w w' := by
  have HA := Aside0.mk ha
  have HB := Aside0.mk hb
  have HG := Aside0.mk (And.intro g0 g1)
  obtain ⟨n, hn⟩ : ∃ n, n = a.length := ⟨_, rfl⟩
  obtain ⟨m, hm⟩ : ∃ m, m = b.length := ⟨_, rfl⟩
  have HN := Aside0.mk (And.intro hn hm)
  clear ha hb g0 g1 hn hm
  go_enter Try.func42, Try.ntmps42
  go_wp2_with fail
  go_loopw [5, 8] (fun v5 v8 wr => ∃ i : Nat, i ≤ 2 ∧ v8 = .int .i64 (i : Int) ∧ Aside0 (Below w.heap.size w wr)) (fun _ v8 _ => 2 - (intOf v8).toNat)
  case atStart => exact ⟨0, by omega, rfl, ⟨Below.refl _ _⟩⟩
  case round =>
    obtain ⟨i, hi, rfl, HW⟩ := hrel
    have hen := right1_enter
    rcases (show i = 0 ∨ i = 1 ∨ i = 2 by omega) with rfl | rfl | rfl
    · have hc : wr.cell? ⟨g, 0, none⟩ = some (.slice A0 a.length c0) := (HW.out.cell (World.block_lt_of_cell? w _ HG.out.1)).trans HG.out.1
      have HR := Aside0.mk (right1_calls wr (HA.out.below HW.out))
      rw [← HN.out.1] at hc HR
      go_wp2_with fail
      refine HR.out.mono ?_
      rintro e w1 ⟨rfl, hb1⟩
      go_wp2_with fail
      go_roundw
      case rel => exact ⟨1, by omega, by go_num, ⟨below_step HW.out hb1⟩⟩
      case measure => simp [intOf]
    · have hc : wr.cell? ⟨g, 1, none⟩ = some (.slice A1 b.length c1) := (HW.out.cell (World.block_lt_of_cell? w _ HG.out.2)).trans HG.out.2
      have HR := Aside0.mk (right1_calls wr (HB.out.below HW.out))
      rw [← HN.out.2] at hc HR
      go_wp2_with fail
      refine HR.out.mono ?_
      rintro e w1 ⟨rfl, hb1⟩
      go_wp2_with fail
      go_roundw
      case rel => exact ⟨2, by omega, by go_num, ⟨below_step HW.out hb1⟩⟩
      case measure => simp [intOf]
    · go_wp2_with fail
      go_ret
      exact ⟨rfl, HW.out⟩
theorem contains2_calls {g cap : Nat} {A0 A1 : Option Addr} {c0 c1 : Nat} {a b : List Int} (w : World) (ha : Nm w A0 c0 a) (hb : Nm w A1 c1 b)
    (g0 : w.cell? ⟨g, 0, none⟩ = some (.slice A0 a.length c0)) (g1 : w.cell? ⟨g, 1, none⟩ = some (.slice A1 b.length c1)) :
    Calls Try.prog 30 #[.slice (some ⟨g, 0, none⟩) 2 cap, .func (.func 31) #[] #[]] w fun e w' => e = .returned (.bool false) ∧ Below w.heap.size w w' := by
  have HI := Aside0.mk (index2_calls (cap := cap) w ha hb g0 g1)
  clear ha hb g0 g1
  go_enter Try.func30, Try.ntmps30
  go_wp2_with fail
  refine HI.out.mono ?_
  rintro e w1 ⟨rfl, hb1⟩
  go_wp2_with fail
  go_ret
  exact ⟨rfl, hb1⟩
/-- Both are numbers. -/
theorem right_calls {g cap : Nat} {A0 A1 : Option Addr} {c0 c1 : Nat} {a b : List Int} (w : World) (ha : Nm w A0 c0 a) (hb : Nm w A1 c1 b)
    (g0 : w.cell? ⟨g, 0, none⟩ = some (.slice A0 a.length c0)) (g1 : w.cell? ⟨g, 1, none⟩ = some (.slice A1 b.length c1)) :
    Calls Try.prog 21 #[.slice (some ⟨g, 0, none⟩) 2 cap] w fun e w' => e = .returned (.bool true) ∧ Below w.heap.size w w' := by
  have HI := Aside0.mk (contains2_calls (cap := cap) w ha hb g0 g1)
  clear ha hb g0 g1
  go_enter Try.func21, Try.ntmps21
  go_wp2_with fail
  refine HI.out.mono ?_
  rintro e w1 ⟨rfl, hb1⟩
  go_wp2_with fail
  go_ret
  exact ⟨rfl, hb1⟩
end Go.Proofs.Ytdaelbihfdlgkaa.Nc
