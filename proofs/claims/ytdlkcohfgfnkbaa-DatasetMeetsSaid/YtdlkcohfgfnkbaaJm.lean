/- slices.IndexFunc and ContainsFunc over tables, at whatever predicate; dataset.many over them. -/
import Derived.Test.YtdlkcohfgfnkbaaJt
namespace Go.Proofs.Ytdlkcohfgfnkbaa.Jt
open Go.RowKit Go.Proofs.Ytdlkcohfgfnkbaa.PDatasetJoins Go.Proofs.Ytdlkcohfgfnkbaa.Tp Go.Proofs.Ytdlkcohfgfnkbaa.Tr Go.Proofs.Ytdlkcohfgfnkbaa.Jp Go.Proofs.YtdlkcohfgfnkbaaW.PrintWords Go.Proofs.YtdlkcohfgfnkbaaW.PrintLast Go.Proofs.YtdlkcohfgfnkbaaW.PrintMore
set_option linter.unusedSimpArgs false
set_option linter.unusedVariables false

set_option maxRecDepth 100000 in
set_option maxHeartbeats 400000 in
theorem index_calls (f : Nat) (caps : Array Value) (p : S43 → Bool) (A : Option Addr) (c : Nat) (l : List S43) (w : World) (hr : Kd.C k43 w A l.length l) (hl : l.length ≤ 140737488351232) (hz : ∀ x ∈ l, okT x) (hp : PredT f caps w p) :
    Calls Try.prog 83 #[.slice A l.length c, .func (.func f) #[] caps] w fun e w' => ∃ i : Int, e = .returned (.int .i64 i) ∧ (decide (0 ≤ i) = l.any p) ∧ Below w.heap.size w w' := by
  have HR := Aside0.mk hr
  have HP := Aside0.mk hp
  have HZ := Aside0.mk hz
  clear hr hp hz
  go_enter Try.func83, Try.ntmps83
  go_wp2_with fail
  go_loopg [5, 8] l.length (fun g v5 v8 wx => ∃ i : Nat, i + g = l.length ∧ v8 = .int .i64 (i : Int) ∧ Aside0 ((l.take i).any p = false) ∧ Aside0 (Below w.heap.size w wx))
  case atStart => exact ⟨0, by omega, rfl, ⟨rfl⟩, ⟨Below.refl _ _⟩⟩
  case round =>
    obtain ⟨i, hi, rfl, HT, HB⟩ := hrel
    cases gk with
    | succ g =>
      have hlt : (i : Int) < (l.length : Int) := by omega
      obtain ⟨ad, A0, c0, A1, c1, A2, c2, hA, hx0, hx1, hx2, l0, g0, l1, g1, l2, g2⟩ := at_T43 (Kd.C_below HR.out HB.out) (i : Int) (by omega) hlt
      subst hA
      rw [Int.toNat_natCast] at hx0 hx1 hx2
      have hen := HP.out.enter
      have hd : l.take (i + 1) = l.take i ++ [rd_T43 l (i : Int)] := by
        rw [List.take_succ_eq_append_getElem (by omega), rdT_at l i (by omega)]
      have hmem := rdT_mem l i (by omega)
      obtain ⟨z0, z1, z2, z3⟩ := HZ.out _ hmem
      have HT43 := Aside0.mk (show IsTb wr A0 A1 A2 c0 c1 c2 (rd_T43 l (i : Int)).f0 (rd_T43 l (i : Int)).f1 (rd_T43 l (i : Int)).f2 from ⟨l0, l1, l2, g0, g1, g2, z0, z1, z2, z3⟩)
      obtain ⟨x, hx⟩ : ∃ x, x = rd_T43 l (i : Int) := ⟨_, rfl⟩
      rw [← hx] at hx0 hx1 hx2 hd hmem HT43
      have HD := Aside0.mk hd
      have HM := Aside0.mk hmem
      clear hx hd hmem z0 z1 z2 z3 l0 g0 l1 g1 l2 g2
      go_wp2_with fail
      refine (HP.out.calls _ A0 A1 A2 c0 c1 c2 x HB.out HT43.out).mono ?_
      rintro e w1 ⟨rfl, hb1⟩
      have HB1 := Aside0.mk (HB.out.trans (hb1.mono HB.out.size))
      clear hb1 hx0 hx1 hx2
      cases hpx : p x with
      | true =>
        have HX := Aside0.mk hpx
        clear hpx hen
        go_wp2_with fail
        go_ret
        exact ⟨(i : Int), rfl, by
          rw [decide_eq_true (by omega)]
          symm
          rw [List.any_eq_true]
          exact ⟨x, HM.out, HX.out⟩, HB1.out⟩
      | false =>
        have HX := Aside0.mk hpx
        clear hpx hen
        go_wp2_with fail
        go_roundg g
        case measure => omega
        case rel => exact ⟨i + 1, by omega, rfl, ⟨by rw [HD.out, List.any_append, HT.out]; simp [HX.out]⟩, HB1⟩
    | zero =>
      have hlt : ¬ (i : Int) < (l.length : Int) := by omega
      have HE := Aside0.mk (show i = l.length by omega)
      go_wp2_with fail
      go_ret
      exact ⟨-1, rfl, by have h := HT.out; rw [HE.out, List.take_length] at h; rw [h]; rfl, HB.out⟩
set_option maxHeartbeats 400000 in
theorem contains_calls (f : Nat) (caps : Array Value) (p : S43 → Bool) (A : Option Addr) (c : Nat) (l : List S43) (w : World) (hr : Kd.C k43 w A l.length l) (hl : l.length ≤ 140737488351232) (hz : ∀ x ∈ l, okT x) (hp : PredT f caps w p) :
    Calls Try.prog 69 #[.slice A l.length c, .func (.func f) #[] caps] w fun e w' => e = .returned (.bool (l.any p)) ∧ Below w.heap.size w w' := by
  have HR := Aside0.mk hr
  have HP := Aside0.mk hp
  have HZ := Aside0.mk hz
  clear hr hp hz
  go_enter Try.func69, Try.ntmps69
  go_wp2_with fail
  refine (index_calls f caps p A c l _ HR.out hl HZ.out HP.out).mono ?_
  rintro e w1 ⟨i, rfl, hi, hb⟩
  have HI := Aside0.mk hi
  have HB := Aside0.mk hb
  clear hi hb
  go_wp2_with fail
  go_ret
  exact ⟨by rw [← HI.out]; rfl, HB.out⟩
set_option maxRecDepth 100000 in
theorem pred70 (g : Nat) (caps : Array Value) (p : S43 → Bool) (w : World) (hc : w.heap[g]? = some (.cells #[.func (.func 59) #[] caps] 44 (0, 0))) (hp : PredT 59 caps w p) : PredT 70 #[.pointer (some ⟨g, 0, none⟩)] w (fun x => !p x) where
  enter := fun args w => by go_simp
  calls := fun W A0 A1 A2 c0 c1 c2 x hb ht => by
    show Calls Try.prog 70 #[.agg #[.slice A0 x.f0.length c0, .slice A1 x.f1.length c1, .slice A2 x.f2.length c2], .pointer (some ⟨g, 0, none⟩)] W _
    have hB1 : Below W.heap.size W (W.alloc (.cells #[.slice A0 x.f0.length c0, .slice A1 x.f1.length c1, .slice A2 x.f2.length c2] 43)) := below_alloc (Below.refl _ _) _
    have hcell := one_cell (blk_below (blk_below hc hb) hB1)
    have HT := Aside0.mk (ht.below hB1)
    have HB := Aside0.mk hB1
    have HB' := Aside0.mk (hb.trans (hB1.mono hb.size))
    have HP := Aside0.mk hp
    have hen := hp.enter
    clear ht hB1 hp hb hc
    go_enter Try.func70, Try.ntmps70
    go_wp2_with fail
    refine (HP.out.calls _ A0 A1 A2 c0 c1 c2 x HB'.out HT.out).mono ?_
    rintro e w1 ⟨rfl, hb1⟩
    have HB1 := Aside0.mk (HB.out.trans (hb1.mono HB.out.size))
    clear hb1 hen
    go_wp2_with fail
    go_ret
    exact ⟨rfl, HB1.out⟩
def manyQ (l : List S43) (p : S43 → Bool) : Int := if l.length = 0 ∨ 16 < l.length then 1 else if l.any (fun x => !p x) then 20 else 0
set_option maxRecDepth 100000 in
set_option maxHeartbeats 400000 in
theorem many_calls (caps : Array Value) (p : S43 → Bool) (A : Option Addr) (c : Nat) (l : List S43) (w : World) (hr : Kd.C k43 w A l.length l) (hl : l.length ≤ 140737488351232) (hz : ∀ x ∈ l, okT x) (hp : 0 < l.length → PredT 59 caps (w.alloc (.cells #[.func (.func 59) #[] caps] 44)) p) :
    Calls Try.prog 61 #[.slice A l.length c, .func (.func 59) #[] caps] w fun e w' => e = .returned (.int .i64 (manyQ l p)) ∧ Below w.heap.size w w' := by
  have HR := Aside0.mk hr
  have HZ := Aside0.mk hz
  have HP := Aside0.mk hp
  clear hr hz hp
  have HB := Aside0.mk (below_alloc (Below.refl _ w) (.cells #[.func (.func 59) #[] caps] 44))
  by_cases h : l.length = 0 ∨ 16 < l.length
  · have HM := Aside0.mk (show manyQ l p = 1 from if_pos h)
    by_cases h0 : l.length = 0
    · have h0b : ((l.length : Int) == 0) = true := by simp [h0]
      have H0 := Aside0.mk h0
      clear h h0
      go_enter Try.func61, Try.ntmps61
      go_wp2_with fail
      go_ret
      exact ⟨by rw [HM.out]; rfl, HB.out⟩
    · have h0b : ((l.length : Int) == 0) = false := by rw [beq_eq_false_iff_ne]; omega
      have h1 : (l.length : Int) > 16 := by omega
      clear h h0
      go_enter Try.func61, Try.ntmps61
      go_wp2_with fail
      go_ret
      exact ⟨by rw [HM.out]; rfl, HB.out⟩
  · have h0b : ((l.length : Int) == 0) = false := by rw [beq_eq_false_iff_ne]; omega
    have h1 : ¬ (l.length : Int) > 16 := by omega
    have HP2 := Aside0.mk (pred70 _ caps p _ (blk_new w _) (HP.out (by omega)))
    cases hb : l.any (fun x => !p x) with
    | true =>
      have HM := Aside0.mk (show manyQ l p = 20 by unfold manyQ; rw [if_neg h, if_pos hb])
      have HX := Aside0.mk hb
      clear h hb
      go_enter Try.func61, Try.ntmps61
      go_wp2_with fail
      refine (contains_calls 70 #[.pointer (some ⟨w.heap.size, 0, none⟩)] _ A c l _ (Kd.C_alloc HR.out _) hl HZ.out HP2.out).mono ?_
      rintro e w1 ⟨rfl, hb1⟩
      have HB1 := Aside0.mk (HB.out.trans (hb1.mono HB.out.size))
      clear hb1
      rw [HX.out]
      go_wp2_with fail
      go_ret
      exact ⟨by rw [HM.out]; rfl, HB1.out⟩
    | false =>
      have HM := Aside0.mk (show manyQ l p = 0 by unfold manyQ; rw [if_neg h, if_neg (by rw [hb]; decide)])
      have HX := Aside0.mk hb
      clear h hb
      go_enter Try.func61, Try.ntmps61
      go_wp2_with fail
      refine (contains_calls 70 #[.pointer (some ⟨w.heap.size, 0, none⟩)] _ A c l _ (Kd.C_alloc HR.out _) hl HZ.out HP2.out).mono ?_
      rintro e w1 ⟨rfl, hb1⟩
      have HB1 := Aside0.mk (HB.out.trans (hb1.mono HB.out.size))
      clear hb1
      rw [HX.out]
      go_wp2_with fail
      go_ret
      exact ⟨by rw [HM.out]; rfl, HB1.out⟩
end Go.Proofs.Ytdlkcohfgfnkbaa.Jt
