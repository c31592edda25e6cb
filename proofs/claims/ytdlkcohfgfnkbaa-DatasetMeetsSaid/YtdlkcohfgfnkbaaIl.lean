/- slices.IndexFunc and ContainsFunc over [][]int, at whatever predicate; dataset.many over them. -/
import Derived.Test.YtdlkcohfgfnkbaaTr
namespace Go.Proofs.Ytdlkcohfgfnkbaa.Il
open Go.RowKit Go.Proofs.Ytdlkcohfgfnkbaa.PDatasetJoins Go.Proofs.Ytdlkcohfgfnkbaa.Tp Go.Proofs.Ytdlkcohfgfnkbaa.Tr Go.Proofs.YtdlkcohfgfnkbaaW.PrintWords Go.Proofs.YtdlkcohfgfnkbaaW.PrintLast Go.Proofs.YtdlkcohfgfnkbaaW.PrintMore
set_option linter.unusedSimpArgs false
set_option linter.unusedVariables false

/-- A predicate on lists of ints. -/
structure PredL (f : Nat) (caps : Array Value) (w : World) (p : List Int → Bool) : Prop where
  enter : ∀ args w, (callFunc f args).run Try.prog w = .ok (.enter f args) w
  calls : ∀ (W : World) (A : Option Addr) (c : Nat) (x : List Int), Below w.heap.size w W → Kd.C (Kd.int .i64) W A x.length x → x.length ≤ 140737488351232 →
    Calls Try.prog f (#[.slice A x.length c] ++ caps) W fun e w' => e = .returned (.bool (p x)) ∧ Below W.heap.size W w'

set_option maxHeartbeats 400000 in
theorem index_calls (f : Nat) (caps : Array Value) (p : List Int → Bool) (A : Option Addr) (c : Nat) (l : List (List Int)) (w : World) (hr : Kd.C (Kd.slice 3 (Kd.int .i64)) w A l.length l) (hl : l.length ≤ 140737488351232) (hz : ∀ x ∈ l, x.length ≤ 140737488351232) (hp : PredL f caps w p) :
    Calls Try.prog 71 #[.slice A l.length c, .func (.func f) #[] caps] w fun e w' => ∃ i : Int, e = .returned (.int .i64 i) ∧ (decide (0 ≤ i) = l.any p) ∧ Below w.heap.size w w' := by
  have HR := Aside0.mk hr
  have HP := Aside0.mk hp
  have HZ := Aside0.mk hz
  clear hr hp hz
  go_enter Try.func71, Try.ntmps71
  go_wp2_with fail
  go_loopg [5, 8] l.length (fun g v5 v8 wx => ∃ i : Nat, i + g = l.length ∧ v8 = .int .i64 (i : Int) ∧ Aside0 ((l.take i).any p = false) ∧ Aside0 (Below w.heap.size w wx))
  case atStart => exact ⟨0, by omega, rfl, ⟨rfl⟩, ⟨Below.refl _ _⟩⟩
  case round =>
    obtain ⟨i, hi, rfl, HT, HB⟩ := hrel
    cases gk with
    | succ g =>
      have hlt : (i : Int) < (l.length : Int) := by omega
      obtain ⟨ad, Ac, cc, hA, hcc, hcl, hcr⟩ := at_L1 (Kd.C_below HR.out HB.out) (i : Int) (by omega) hlt
      subst hA
      rw [Int.toNat_natCast] at hcc
      have hen := HP.out.enter
      have hd : l.take (i + 1) = l.take i ++ [rd_L1 l (i : Int)] := by
        rw [List.take_succ_eq_append_getElem (by omega)]
        congr 2
        simp [rd_L1, show i < l.length by omega]
      have hmem : rd_L1 l (i : Int) ∈ l := by
        simp only [rd_L1, Int.toNat_natCast, List.getD_eq_getElem?_getD, List.getElem?_eq_getElem (show i < l.length by omega), Option.getD_some]
        exact List.getElem_mem _
      have hxz := HZ.out _ hmem
      obtain ⟨x, hx⟩ : ∃ x, x = rd_L1 l (i : Int) := ⟨_, rfl⟩
      rw [← hx] at hcc hcl hcr hd hmem hxz
      have HD := Aside0.mk hd
      have HM := Aside0.mk hmem
      have HCR := Aside0.mk hcr
      have HXZ := Aside0.mk hxz
      clear hx hd hmem hcr hxz
      go_wp2_with fail
      refine (HP.out.calls _ Ac cc x HB.out HCR.out HXZ.out).mono ?_
      rintro e w1 ⟨rfl, hb1⟩
      have HB1 := Aside0.mk (HB.out.trans (hb1.mono HB.out.size))
      clear hb1 hcc
      cases hpx : p x with
      | true =>
        have HX := Aside0.mk hpx
        clear hpx hen
        go_wp2_with fail
        go_ret
        exact ⟨(i : Int), rfl, by
          rw [decide_eq_true (by omega)]
          symm
          rw [List.any_eq_true]
          exact ⟨x, HM.out, HX.out⟩, HB1.out⟩
      | false =>
        have HX := Aside0.mk hpx
        clear hpx hen
        go_wp2_with fail
        go_roundg g
        case measure => omega
        case rel => exact ⟨i + 1, by omega, rfl, ⟨by rw [HD.out, List.any_append, HT.out]; simp [HX.out]⟩, HB1⟩
    | zero =>
      have hlt : ¬ (i : Int) < (l.length : Int) := by omega
      have HE := Aside0.mk (show i = l.length by omega)
      go_wp2_with fail
      go_ret
      exact ⟨-1, rfl, by have h := HT.out; rw [HE.out, List.take_length] at h; rw [h]; rfl, HB.out⟩
set_option maxHeartbeats 400000 in
theorem contains_calls (f : Nat) (caps : Array Value) (p : List Int → Bool) (A : Option Addr) (c : Nat) (l : List (List Int)) (w : World) (hr : Kd.C (Kd.slice 3 (Kd.int .i64)) w A l.length l) (hl : l.length ≤ 140737488351232) (hz : ∀ x ∈ l, x.length ≤ 140737488351232) (hp : PredL f caps w p) :
    Calls Try.prog 64 #[.slice A l.length c, .func (.func f) #[] caps] w fun e w' => e = .returned (.bool (l.any p)) ∧ Below w.heap.size w w' := by
  have HR := Aside0.mk hr
  have HP := Aside0.mk hp
  have HZ := Aside0.mk hz
  clear hr hp hz
  go_enter Try.func64, Try.ntmps64
  go_wp2_with fail
  refine (index_calls f caps p A c l _ HR.out hl HZ.out HP.out).mono ?_
  rintro e w1 ⟨i, rfl, hi, hb⟩
  have HI := Aside0.mk hi
  have HB := Aside0.mk hb
  clear hi hb
  go_wp2_with fail
  go_ret
  exact ⟨by rw [← HI.out]; rfl, HB.out⟩
theorem pred65 (g : Nat) (w : World) (hc : w.heap[g]? = some (.cells #[.func (.func 52) #[] #[]] 66 (0, 0))) : PredL 65 #[.pointer (some ⟨g, 0, none⟩)] w (fun x => !idsB x) where
  enter := fun args w => by go_simp
  calls := fun W A c x hb hr hz => by
    show Calls Try.prog 65 #[.slice A x.length c, .pointer (some ⟨g, 0, none⟩)] W _
    have hcell := one_cell (blk_below hc hb)
    have HR := Aside0.mk hr
    clear hr
    go_enter Try.func65, Try.ntmps65
    go_wp2_with fail
    refine (rightIds_calls A c x _ HR.out hz).mono ?_
    rintro e w1 ⟨rfl, hb1⟩
    have HB := Aside0.mk hb1
    clear hb1
    go_wp2_with fail
    go_ret
    exact ⟨rfl, HB.out⟩
/-- What is wrong with some lists of ids. -/
def manyL (l : List (List Int)) : Int := if l.length = 0 ∨ 16 < l.length then 1 else if l.any (fun x => !idsB x) then 20 else 0
set_option maxHeartbeats 400000 in
theorem many_calls (A : Option Addr) (c : Nat) (l : List (List Int)) (w : World) (hr : Kd.C (Kd.slice 3 (Kd.int .i64)) w A l.length l) (hl : l.length ≤ 140737488351232) (hz : ∀ x ∈ l, x.length ≤ 140737488351232) :
    Calls Try.prog 51 #[.slice A l.length c, .func (.func 52) #[] #[]] w fun e w' => e = .returned (.int .i64 (manyL l)) ∧ Below w.heap.size w w' := by
  have HR := Aside0.mk hr
  have HZ := Aside0.mk hz
  clear hr hz
  have HB := Aside0.mk (below_alloc (Below.refl _ w) (.cells #[.func (.func 52) #[] #[]] 66))
  by_cases h : l.length = 0 ∨ 16 < l.length
  · have HM := Aside0.mk (show manyL l = 1 from if_pos h)
    by_cases h0 : l.length = 0
    · have h0b : ((l.length : Int) == 0) = true := by simp [h0]
      have H0 := Aside0.mk h0
      clear h h0
      go_enter Try.func51, Try.ntmps51
      go_wp2_with fail
      go_ret
      exact ⟨by rw [HM.out]; rfl, HB.out⟩
    · have h0b : ((l.length : Int) == 0) = false := by rw [beq_eq_false_iff_ne]; omega
      have h1 : (l.length : Int) > 16 := by omega
      clear h h0
      go_enter Try.func51, Try.ntmps51
      go_wp2_with fail
      go_ret
      exact ⟨by rw [HM.out]; rfl, HB.out⟩
  · have h0b : ((l.length : Int) == 0) = false := by rw [beq_eq_false_iff_ne]; omega
    have h1 : ¬ (l.length : Int) > 16 := by omega
    cases hb : l.any (fun x => !idsB x) with
    | true =>
      have HM := Aside0.mk (show manyL l = 20 by unfold manyL; rw [if_neg h, if_pos hb])
      have HX := Aside0.mk hb
      clear h hb
      go_enter Try.func51, Try.ntmps51
      go_wp2_with fail
      refine (contains_calls 65 #[.pointer (some ⟨w.heap.size, 0, none⟩)] _ A c l _ (Kd.C_alloc HR.out _) hl HZ.out (pred65 _ _ (blk_new w _))).mono ?_
      rintro e w1 ⟨rfl, hb1⟩
      have HB1 := Aside0.mk (HB.out.trans (hb1.mono HB.out.size))
      clear hb1
      rw [HX.out]
      go_wp2_with fail
      go_ret
      exact ⟨by rw [HM.out]; rfl, HB1.out⟩
    | false =>
      have HM := Aside0.mk (show manyL l = 0 by unfold manyL; rw [if_neg h, if_neg (by rw [hb]; decide)])
      have HX := Aside0.mk hb
      clear h hb
      go_enter Try.func51, Try.ntmps51
      go_wp2_with fail
      refine (contains_calls 65 #[.pointer (some ⟨w.heap.size, 0, none⟩)] _ A c l _ (Kd.C_alloc HR.out _) hl HZ.out (pred65 _ _ (blk_new w _))).mono ?_
      rintro e w1 ⟨rfl, hb1⟩
      have HB1 := Aside0.mk (HB.out.trans (hb1.mono HB.out.size))
      clear hb1
      rw [HX.out]
      go_wp2_with fail
      go_ret
      exact ⟨by rw [HM.out]; rfl, HB1.out⟩
end Go.Proofs.Ytdlkcohfgfnkbaa.Il
