/- Products of numbers. -/
import Derived.Test.YtdaelbihfdlgkaaNi
namespace Go.Proofs.Ytdaelbihfdlgkaa.Nj
open Go.RowKit Go.Proofs.Ytdaelbihfdlgkaa.Na Go.Proofs.Ytdaelbihfdlgkaa.Nv Go.Proofs.Ytdaelbihfdlgkaa.Ns Go.Proofs.Ytdaelbihfdlgkaa.Nt Go.Proofs.Ytdaelbihfdlgkaa.Np Go.Proofs.Ytdaelbihfdlgkaa.Nq Go.Proofs.Ytdaelbihfdlgkaa.No Go.Proofs.Ytdaelbihfdlgkaa.Nc Go.Proofs.Ytdaelbihfdlgkaa.Nh Go.Proofs.Ytdaelbihfdlgkaa.Fns Go.Proofs.YtdaelbihfdlgkaaW.PrintWords Go.Proofs.YtdaelbihfdlgkaaW.PrintLast Go.Proofs.YtdaelbihfdlgkaaW.PrintMore
set_option linter.unusedVariables false
set_option linter.unusedSimpArgs false
variable {A0 A1 : Option Addr} {c0 c1 : Nat} {a b : List Int}
theorem halves_calls {g : Nat} (w : World) (hg : w.cell? ⟨g, 0, none⟩ = some (.func (.func 32) #[] #[.pointer (some ⟨g, 0, none⟩)])) (ha : Rd w A0 c0 a) (hb : Rd w A1 c1 b) (h1 : a.length ≤ 40) (h2 : b.length ≤ 40) :
    Calls Try.prog 32 #[.slice A0 a.length c0, .slice A1 b.length c1, .pointer (some ⟨g, 0, none⟩)] w (Out w (Pd a b)) := by
  by_cases h : a.length < 24 ∨ b.length < 24
  · exact halves_small w ha hb h (by omega)
  · exact Ni.halves_big w hg ha hb (by omega) (by omega)
theorem store_fn (w : World) : (store ⟨w.heap.size, 0, none⟩ (.func (.func 32) #[] #[.pointer (some ⟨w.heap.size, 0, none⟩)])).run Try.prog (w.alloc (.cells #[.nilFunc] 48)) = .ok () (w.alloc (.cells #[.func (.func 32) #[] #[.pointer (some ⟨w.heap.size, 0, none⟩)]] 48)) := by
  have z0 : (w.alloc (.cells #[.nilFunc] 48)).cell? ⟨w.heap.size, 0, none⟩ = some .nilFunc := cell_of_row (w.alloc _) w.heap.size 0 _ _ _ (MapKept.heap_alloc w _).1
  have z1 : (w.alloc (.cells #[.nilFunc] 48)).frozen? ⟨w.heap.size, 0, none⟩ = false := blk_frozen (MapKept.heap_alloc w _).1 0
  rw [run_store _ _ _ _ _ rfl, z0, z1]
  show Result.ok () _ = _
  congr 1
  rw [World.setCell_alloc_new]
  rfl
set_option maxRecDepth 100000 in
theorem product_calls (w : World) (ha : Rd w A0 c0 a) (hb : Rd w A1 c1 b) (h1 : a.length ≤ 40) (h2 : b.length ≤ 40) :
    Calls Try.prog 22 #[.slice A0 a.length c0, .slice A1 b.length c1] w (Out w (Pd a b)) := by
  have HA := Aside0.mk ha
  have HB := Aside0.mk hb
  have HL := Aside0.mk (And.intro h1 h2)
  obtain ⟨n, hn⟩ : ∃ n, n = a.length := ⟨_, rfl⟩
  obtain ⟨m, hm⟩ : ∃ m, m = b.length := ⟨_, rfl⟩
  have HN := Aside0.mk (And.intro hn hm)
  rw [← hn, ← hm]
  clear ha hb h1 h2 hn hm
  have z0 := store_fn w
  go_enter Try.func22, Try.ntmps22
  go_upto_region 3 with fail
  obtain ⟨W, hW⟩ : ∃ W, W = w.alloc (.cells #[.func (.func 32) #[] #[.pointer (some ⟨w.heap.size, 0, none⟩)]] 48) := ⟨_, rfl⟩
  have hc : W.cell? ⟨w.heap.size, 0, none⟩ = some (.func (.func 32) #[] #[.pointer (some ⟨w.heap.size, 0, none⟩)]) := by rw [hW]; exact cell_of_row (w.alloc _) w.heap.size 0 _ _ _ (MapKept.heap_alloc w _).1
  have hb0 : Below w.heap.size w W := by rw [hW]; exact below_alloc (Below.refl _ w) _
  rw [← hW]
  have HC := Aside0.mk (halves_calls W hc (HA.out.below hb0) (HB.out.below hb0) HL.out.1 HL.out.2)
  rw [← HN.out.1, ← HN.out.2] at HC
  have HW := Aside0.mk hb0
  clear hW hb0 z0
  have hen := enters_ (P := Try.prog) Try.func32 (by kernel_rfl) rfl
  go_wp2_with fail
  refine HC.out.mono ?_
  rintro e w1 ⟨A, c, r, rfl, hb1, i1, i2⟩
  have HQ := Aside0.mk (And.intro i1 i2)
  have HW1 := Aside0.mk (HW.out.trans (hb1.mono HW.out.size))
  clear i1 i2 hb1 hc hen
  go_wp2_with fail
  go_ret
  exact ⟨A, c, r, rfl, HW1.out, HQ.out.1, HQ.out.2⟩
/-- Two numbers side by side are numbers. -/
theorem both_calls (w : World) (ha : Nm w A0 c0 a) (hb : Nm w A1 c1 b) :
    Calls Try.prog 21 #[.slice (some ⟨w.heap.size, 0, none⟩) 2 2] (w.alloc (.cells #[.slice A0 a.length c0, .slice A1 b.length c1] 23)) fun e w' => e = .returned (.bool true) ∧ Below w.heap.size w w' := by
  have hb0 : Below w.heap.size w (w.alloc (.cells #[.slice A0 a.length c0, .slice A1 b.length c1] 23)) := below_alloc (Below.refl _ w) _
  refine (right_calls (w.alloc (.cells #[.slice A0 a.length c0, .slice A1 b.length c1] 23)) (ha.below hb0) (hb.below hb0) (cell_of_row (w.alloc _) w.heap.size 0 _ _ _ (MapKept.heap_alloc w _).1) (cell_of_row (w.alloc _) w.heap.size 1 _ _ _ (MapKept.heap_alloc w _).1)).mono ?_
  rintro e w' ⟨rfl, h⟩
  exact ⟨rfl, hb0.trans (h.mono hb0.size)⟩
set_option maxRecDepth 100000 in
set_option maxHeartbeats 400000 in
/-- The product of two numbers. -/
theorem mul_calls (w : World) (ha : Nm w A0 c0 a) (hb : Nm w A1 c1 b) (h1 : a.length ≤ 32) (h2 : b.length ≤ 32) :
    Calls Try.prog 9 #[.slice A0 a.length c0, .slice A1 b.length c1] w fun e w' => ∃ A c r, e = .returned (.tuple #[.slice A r.length c, .int .i64 0]) ∧ Below w.heap.size w w' ∧ Nm w' A c r ∧ V r = V a * V b := by
  have HA := Aside0.mk ha
  have HB := Aside0.mk hb
  have HL := Aside0.mk (And.intro h1 h2)
  obtain ⟨n, hn⟩ : ∃ n, n = a.length := ⟨_, rfl⟩
  obtain ⟨m, hm⟩ : ∃ m, m = b.length := ⟨_, rfl⟩
  have HN := Aside0.mk (And.intro hn hm)
  rw [← hn, ← hm]
  clear ha hb h1 h2 hn hm
  have HBO := Aside0.mk (both_calls w HA.out HB.out)
  rw [← HN.out.1, ← HN.out.2] at HBO
  go_enter Try.func9, Try.ntmps9
  go_wp2_with fail
  refine HBO.out.mono ?_
  rintro e w1 ⟨rfl, hb1⟩
  have HA1 := Aside0.mk (HA.out.below hb1)
  have HB1 := Aside0.mk (HB.out.below hb1)
  have HC := Aside0.mk (product_calls w1 HA1.out.toRd HB1.out.toRd (by have := HL.out; omega) (by have := HL.out; omega))
  rw [← HN.out.1, ← HN.out.2] at HC
  have HW1 := Aside0.mk hb1
  clear hb1
  go_wp2_with fail
  refine HC.out.mono ?_
  rintro e w2 ⟨A, c, p, rfl, hb2, i1, i2⟩
  have HW2 := Aside0.mk (HW1.out.trans (hb2.mono HW1.out.size))
  have HP := Aside0.mk (And.intro i1 i2)
  clear i1 i2 hb2
  go_wp2_with fail
  refine (told_rd w2 HP.out.1 (by have := HP.out.2.2.2; have := HL.out; omega) (by
    rw [HP.out.2.2.1]
    exact Int.lt_of_lt_of_le (prod_lt HA.out.l HB.out.l) (pow_mono (by have := HL.out; omega)))).mono ?_
  rintro e wx ⟨r, rfl, hwx, i1, i2, i3, i4⟩
  have hwx2 := hwx.symm
  subst hwx2
  have HR := Aside0.mk (show Nm w2 A c r ∧ V r = V a * V b from ⟨⟨i1, i2, i4⟩, by rw [i3, HP.out.2.2.1]⟩)
  clear hwx i1 i2 i3 i4
  go_wp2_with fail
  go_ret2
  exact ⟨A, c, r, rfl, HW2.out, HR.out⟩
end Go.Proofs.Ytdaelbihfdlgkaa.Nj
