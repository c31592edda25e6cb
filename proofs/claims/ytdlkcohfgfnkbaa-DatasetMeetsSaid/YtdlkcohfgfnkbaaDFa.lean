/- Tables: the document's functions, each as a plain function with rounds, and that the Go function comes to it (as the kit's print.sh wrote them for this seat). -/
import Derived.Test.YtdlkcohfgfnkbaaPDatasetJoinsx0
namespace Go.Proofs.Ytdlkcohfgfnkbaa.DFns
open Go.RowKit Go.Proofs.Ytdlkcohfgfnkbaa.PDatasetJoins Go.Proofs.YtdlkcohfgfnkbaaW.PrintWords Go.Proofs.YtdlkcohfgfnkbaaW.PrintLast Go.Proofs.YtdlkcohfgfnkbaaW.PrintMore
attribute [local go_sem] max2_int min2_int max_two min_two max_three min_three max_four min_four
set_option linter.unusedVariables false
set_option linter.unusedSimpArgs false

/-! ### windbreakref12_SameInts: function 31 -/
def windbreakref12_SameInts.l0 : Nat → List Int → List Int → Int → Option (Bool)
  | 0, _, _, _ => none
  | k + 1, x0, x1, x5 => if x5 < (x0.length : Int) then (if 0 ≤ x5 then (if x5 < (x1.length : Int) then (if (rd x0 x5) = (rd x1 x5) then (windbreakref12_SameInts.l0 k x0 x1 (wrap64 (x5 + 1))) else (some false)) else (none)) else (none)) else (some true)
def windbreakref12_SameInts.f (k : Nat) (l0 : List Int) (l1 : List Int) : Option (Bool) := if (l0.length : Int) = (l1.length : Int) then (windbreakref12_SameInts.l0 k l0 l1 0) else (some false)
theorem windbreakref12_SameInts.mono_l : ∀ k, (∀ y0 y1 y2, LeO (windbreakref12_SameInts.l0 k y0 y1 y2) (windbreakref12_SameInts.l0 (k + 1) y0 y1 y2))
  | 0 => fun _ _ _ r h => by simp [windbreakref12_SameInts.l0] at h
  | k + 1 => by
    have ih0 := windbreakref12_SameInts.mono_l k
    · intro y0 y1 y2
      unfold windbreakref12_SameInts.l0
      repeat' first
      | (with_reducible exact ih0 _ _ _)
      | (with_reducible exact LeO.refl _)
      | (with_reducible exact LeO.none _)
      | (with_reducible refine LeO.ite ?_ ?_)
      | (with_reducible refine LeO.bind ?_ (fun _ => ?_))
      | exact ih0 _ _ _
      | exact LeO.none _
      | refine LeO.ite ?_ ?_
      | refine LeO.bind ?_ (fun _ => ?_)
theorem windbreakref12_SameInts.mono : ∀ a0 a1 k, LeO (windbreakref12_SameInts.f k a0 a1) (windbreakref12_SameInts.f (k + 1) a0 a1) := by
  intro a0 a1 k
  have ih0 := windbreakref12_SameInts.mono_l k
  unfold windbreakref12_SameInts.f
  repeat' first
      | (with_reducible exact ih0 _ _ _)
      | (with_reducible exact LeO.refl _)
      | (with_reducible exact LeO.none _)
      | (with_reducible refine LeO.ite ?_ ?_)
      | (with_reducible refine LeO.bind ?_ (fun _ => ?_))
      | exact ih0 _ _ _
      | exact LeO.none _
      | refine LeO.ite ?_ ?_
      | refine LeO.bind ?_ (fun _ => ?_)
set_option maxHeartbeats 8000000 in
set_option maxRecDepth 100000 in
theorem windbreakref12_SameInts.calls (k : Nat) (A0 : Option Addr) (c0 : Nat) (l0 : List Int) (A1 : Option Addr) (c1 : Nat) (l1 : List Int) (r : Bool) (w : World) (hr0 : Kd.C (Kd.int .i64) w A0 l0.length l0) (hc0 : l0.length ≤ c0) (hr1 : Kd.C (Kd.int .i64) w A1 l1.length l1) (hc1 : l1.length ≤ c1) (h : windbreakref12_SameInts.f k l0 l1 = some r) :
    Calls Try.prog 31 #[.slice A0 l0.length c0, .slice A1 l1.length c1] w fun e w' => e = .returned (.bool r) ∧ Drawn0 w w' := by
  have HR0 := Aside0.mk hr0
  have HC0 := Aside0.mk hc0
  clear hr0 hc0
  have HR1 := Aside0.mk hr1
  have HC1 := Aside0.mk hc1
  clear hr1 hc1
  have H : (if (l0.length : Int) = (l1.length : Int) then (windbreakref12_SameInts.l0 k l0 l1 0) else (some false)) = some r := h
  clear h
  by_cases c3 : (l0.length : Int) = (l1.length : Int)
  · rw [if_pos c3] at H
    have c3b0 : ((l0.length : Int) == (l1.length : Int)) = true := beq_iff_eq.mpr c3
    have c3b1 : ((l0.length : Int) != (l1.length : Int)) = false := bne_eq_false_iff_eq.mpr c3
    have c3b2 : (l0.length == l1.length) = true := by first | simpa using c3 | (simp at c3 ⊢; omega)
    clear c3
    have H' := Aside0.mk H
    clear H
    go_enter Try.func31, Try.ntmps31
    go_wp2
    repeat (go_quiet (fail); try go_wp2)
    go_loopg [5] k (fun kq v5 w' => ∃ (x5_1 : Int), v5 = .int .i64 x5_1 ∧ Aside0 (windbreakref12_SameInts.l0 kq l0 l1 x5_1 = some r) ∧ Aside0 (kq ≤ k) ∧ Drawn0 w w')
    case atStart => exact ⟨(0), (by first | rfl | (simp; done) | (simp [*]; done)), H', ⟨Nat.le_refl _⟩, by repeat (first | exact Drawn0.refl _ | apply Drawn0.step)⟩
    case round =>
      clear H'
      try clear c1
      try clear p2
      try clear c3
      try clear c3b0
      try clear c3b1
      try clear c3b2
      obtain ⟨x5_1, rfl, HA, HK1, ⟨m1, rfl⟩⟩ := hrel
      cases gk with
      | zero => exact absurd HA.out (by simp [windbreakref12_SameInts.l0])
      | succ k1 =>
        have H := HA.out
        clear HA
        simp only [windbreakref12_SameInts.l0] at H
        by_cases c4 : x5_1 < (l0.length : Int)
        · rw [if_pos c4] at H
          have c4b0 : decide (x5_1 < (l0.length : Int)) = true := decide_eq_true c4
          clear c4
          by_cases c5 : 0 ≤ x5_1
          · rw [if_pos c5] at H
            have c5b0 : decide (0 ≤ x5_1) = true := decide_eq_true c5
            clear c5
            by_cases c6 : x5_1 < (l1.length : Int)
            · rw [if_pos c6] at H
              have c6b0 : decide (x5_1 < (l1.length : Int)) = true := decide_eq_true c6
              clear c6
              by_cases c7 : (rd l0 x5_1) = (rd l1 x5_1)
              · rw [if_pos c7] at H
                have c7b0 : ((rd l0 x5_1) == (rd l1 x5_1)) = true := beq_iff_eq.mpr c7
                have c7b1 : ((rd l0 x5_1) != (rd l1 x5_1)) = false := bne_eq_false_iff_eq.mpr c7
                clear c7
                have H' := Aside0.mk H
                clear H
                have p230 : 0 ≤ (x5_1 : Int) := of_decide_eq_true (by first | (with_reducible assumption) | assumption)
                have q230 : x5_1 < (l0.length : Int) := of_decide_eq_true (by first | (with_reducible assumption) | assumption)
                obtain ⟨ad230, e230, hx230_0⟩ := Kd.at_int HR0.out x5_1 p230 q230
                cases e230
                replace p230 := eq_true p230
                replace q230 := eq_true q230
                have p231 : 0 ≤ (x5_1 : Int) := of_decide_eq_true (by first | (with_reducible assumption) | assumption)
                have q231 : x5_1 < (l1.length : Int) := of_decide_eq_true (by first | (with_reducible assumption) | assumption)
                obtain ⟨ad231, e231, hx231_0⟩ := Kd.at_int HR1.out x5_1 p231 q231
                cases e231
                replace p231 := eq_true p231
                replace q231 := eq_true q231
                go_wp2
                repeat (go_quiet (fail); try go_wp2)
                go_roundg k1
                case measure => have := HK1.out; omega
                case rel => exact ⟨(wrap64 (x5_1 + 1)), (by first | rfl | (simp; done) | (simp [*]; done)), H', ⟨by have := HK1.out; omega⟩, by repeat (first | exact Drawn0.refl _ | apply Drawn0.step)⟩
              · rw [if_neg c7] at H
                have c7b0 : ((rd l0 x5_1) == (rd l1 x5_1)) = false := beq_eq_false_iff_ne.mpr c7
                have c7b1 : ((rd l0 x5_1) != (rd l1 x5_1)) = true := bne_iff_ne.mpr c7
                obtain rfl := Option.some.inj H
                have p230 : 0 ≤ (x5_1 : Int) := of_decide_eq_true (by first | (with_reducible assumption) | assumption)
                have q230 : x5_1 < (l0.length : Int) := of_decide_eq_true (by first | (with_reducible assumption) | assumption)
                obtain ⟨ad230, e230, hx230_0⟩ := Kd.at_int HR0.out x5_1 p230 q230
                cases e230
                replace p230 := eq_true p230
                replace q230 := eq_true q230
                have p231 : 0 ≤ (x5_1 : Int) := of_decide_eq_true (by first | (with_reducible assumption) | assumption)
                have q231 : x5_1 < (l1.length : Int) := of_decide_eq_true (by first | (with_reducible assumption) | assumption)
                obtain ⟨ad231, e231, hx231_0⟩ := Kd.at_int HR1.out x5_1 p231 q231
                cases e231
                replace p231 := eq_true p231
                replace q231 := eq_true q231
                go_wp2
                repeat (go_quiet (fail); try go_wp2)
                go_ret
                exact ⟨by first | rfl | (simp; done) | (simp [*]; done), by repeat (first | exact Drawn0.refl _ | apply Drawn0.step)⟩
            · rw [if_neg c6] at H
              exact absurd H (by simp)
          · rw [if_neg c5] at H
            exact absurd H (by simp)
        · rw [if_neg c4] at H
          have c4b0 : decide (x5_1 < (l0.length : Int)) = false := decide_eq_false c4
          clear c4
          obtain rfl := Option.some.inj H
          go_wp2
          repeat (go_quiet (fail); try go_wp2)
          go_ret
          exact ⟨by first | rfl | (simp; done) | (simp [*]; done), by repeat (first | exact Drawn0.refl _ | apply Drawn0.step)⟩
  · rw [if_neg c3] at H
    have c3b0 : ((l0.length : Int) == (l1.length : Int)) = false := beq_eq_false_iff_ne.mpr c3
    have c3b1 : ((l0.length : Int) != (l1.length : Int)) = true := bne_iff_ne.mpr c3
    have c3b2 : (l0.length == l1.length) = false := by first | simpa using c3 | (simp at c3 ⊢; omega)
    obtain rfl := Option.some.inj H
    go_enter Try.func31, Try.ntmps31
    go_wp2
    repeat (go_quiet (fail); try go_wp2)
    go_ret
    exact ⟨by first | rfl | (simp; done) | (simp [*]; done), by repeat (first | exact Drawn0.refl _ | apply Drawn0.step)⟩

/-! ### windbreakref15_place: function 55 -/
def windbreakref15_place.l0 : Nat → List Int → Int → Int → Option (Int)
  | 0, _, _, _ => none
  | k + 1, x0, x1, x5 => if x5 < (x0.length : Int) then (if 0 ≤ x5 then (if (rd x0 x5) = x1 then (some x5) else (windbreakref15_place.l0 k x0 x1 (wrap64 (x5 + 1)))) else (none)) else (some (-1))
def windbreakref15_place.f (k : Nat) (l0 : List Int) (a1 : Int) : Option (Int) := windbreakref15_place.l0 k l0 a1 0
theorem windbreakref15_place.mono_l : ∀ k, (∀ y0 y1 y2, LeO (windbreakref15_place.l0 k y0 y1 y2) (windbreakref15_place.l0 (k + 1) y0 y1 y2))
  | 0 => fun _ _ _ r h => by simp [windbreakref15_place.l0] at h
  | k + 1 => by
    have ih0 := windbreakref15_place.mono_l k
    · intro y0 y1 y2
      unfold windbreakref15_place.l0
      repeat' first
      | (with_reducible exact ih0 _ _ _)
      | (with_reducible exact LeO.refl _)
      | (with_reducible exact LeO.none _)
      | (with_reducible refine LeO.ite ?_ ?_)
      | (with_reducible refine LeO.bind ?_ (fun _ => ?_))
      | exact ih0 _ _ _
      | exact LeO.none _
      | refine LeO.ite ?_ ?_
      | refine LeO.bind ?_ (fun _ => ?_)
theorem windbreakref15_place.mono : ∀ a0 a1 k, LeO (windbreakref15_place.f k a0 a1) (windbreakref15_place.f (k + 1) a0 a1) := by
  intro a0 a1 k
  have ih0 := windbreakref15_place.mono_l k
  unfold windbreakref15_place.f
  repeat' first
      | (with_reducible exact ih0 _ _ _)
      | (with_reducible exact LeO.refl _)
      | (with_reducible exact LeO.none _)
      | (with_reducible refine LeO.ite ?_ ?_)
      | (with_reducible refine LeO.bind ?_ (fun _ => ?_))
      | exact ih0 _ _ _
      | exact LeO.none _
      | refine LeO.ite ?_ ?_
      | refine LeO.bind ?_ (fun _ => ?_)
set_option maxHeartbeats 8000000 in
set_option maxRecDepth 100000 in
theorem windbreakref15_place.calls (k : Nat) (A0 : Option Addr) (c0 : Nat) (l0 : List Int) (a1 : Int) (r : Int) (w : World) (hr0 : Kd.C (Kd.int .i64) w A0 l0.length l0) (hc0 : l0.length ≤ c0) (h : windbreakref15_place.f k l0 a1 = some r) :
    Calls Try.prog 55 #[.slice A0 l0.length c0, .int .i64 a1] w fun e w' => e = .returned (.int .i64 r) ∧ Drawn0 w w' := by
  have HR0 := Aside0.mk hr0
  have HC0 := Aside0.mk hc0
  clear hr0 hc0
  have H : (windbreakref15_place.l0 k l0 a1 0) = some r := h
  clear h
  have H' := Aside0.mk H
  clear H
  go_enter Try.func55, Try.ntmps55
  go_wp2
  go_loopg [5] k (fun kq v5 w' => ∃ (x5_1 : Int), v5 = .int .i64 x5_1 ∧ Aside0 (windbreakref15_place.l0 kq l0 a1 x5_1 = some r) ∧ Aside0 (kq ≤ k) ∧ Drawn0 w w')
  case atStart => exact ⟨(0), (by first | rfl | (simp; done) | (simp [*]; done)), H', ⟨Nat.le_refl _⟩, by repeat (first | exact Drawn0.refl _ | apply Drawn0.step)⟩
  case round =>
    clear H'
    try clear p2
    obtain ⟨x5_1, rfl, HA, HK1, ⟨m1, rfl⟩⟩ := hrel
    cases gk with
    | zero => exact absurd HA.out (by simp [windbreakref15_place.l0])
    | succ k1 =>
      have H := HA.out
      clear HA
      simp only [windbreakref15_place.l0] at H
      by_cases c3 : x5_1 < (l0.length : Int)
      · rw [if_pos c3] at H
        have c3b0 : decide (x5_1 < (l0.length : Int)) = true := decide_eq_true c3
        clear c3
        by_cases c4 : 0 ≤ x5_1
        · rw [if_pos c4] at H
          have c4b0 : decide (0 ≤ x5_1) = true := decide_eq_true c4
          clear c4
          by_cases c5 : (rd l0 x5_1) = a1
          · rw [if_pos c5] at H
            have c5b0 : ((rd l0 x5_1) == a1) = true := beq_iff_eq.mpr c5
            have c5b1 : ((rd l0 x5_1) != a1) = false := bne_eq_false_iff_eq.mpr c5
            clear c5
            obtain rfl := Option.some.inj H
            have p239 : 0 ≤ (x5_1 : Int) := of_decide_eq_true (by first | (with_reducible assumption) | assumption)
            have q239 : x5_1 < (l0.length : Int) := of_decide_eq_true (by first | (with_reducible assumption) | assumption)
            obtain ⟨ad239, e239, hx239_0⟩ := Kd.at_int HR0.out x5_1 p239 q239
            cases e239
            replace p239 := eq_true p239
            replace q239 := eq_true q239
            go_wp2
            go_ret
            exact ⟨by first | rfl | (simp; done) | (simp [*]; done), by repeat (first | exact Drawn0.refl _ | apply Drawn0.step)⟩
          · rw [if_neg c5] at H
            have c5b0 : ((rd l0 x5_1) == a1) = false := beq_eq_false_iff_ne.mpr c5
            have c5b1 : ((rd l0 x5_1) != a1) = true := bne_iff_ne.mpr c5
            have H' := Aside0.mk H
            clear H
            have p239 : 0 ≤ (x5_1 : Int) := of_decide_eq_true (by first | (with_reducible assumption) | assumption)
            have q239 : x5_1 < (l0.length : Int) := of_decide_eq_true (by first | (with_reducible assumption) | assumption)
            obtain ⟨ad239, e239, hx239_0⟩ := Kd.at_int HR0.out x5_1 p239 q239
            cases e239
            replace p239 := eq_true p239
            replace q239 := eq_true q239
            go_wp2
            go_roundg k1
            case measure => have := HK1.out; omega
            case rel => exact ⟨(wrap64 (x5_1 + 1)), (by first | rfl | (simp; done) | (simp [*]; done)), H', ⟨by have := HK1.out; omega⟩, by repeat (first | exact Drawn0.refl _ | apply Drawn0.step)⟩
        · rw [if_neg c4] at H
          exact absurd H (by simp)
      · rw [if_neg c3] at H
        have c3b0 : decide (x5_1 < (l0.length : Int)) = false := decide_eq_false c3
        clear c3
        obtain rfl := Option.some.inj H
        go_wp2
        go_ret
        exact ⟨by first | rfl | (simp; done) | (simp [*]; done), by repeat (first | exact Drawn0.refl _ | apply Drawn0.step)⟩

/-! ### windbreakref15_RightIds: function 54 -/
def windbreakref15_RightIds.l0 : Nat → List Int → Int → Option (Bool)
  | 0, _, _ => none
  | k + 1, x0, x3 => if x3 < (x0.length : Int) then (if 0 ≤ x3 then (if (rd x0 x3) < 0 then (some false) else (if (rd x0 x3) > 1073741824 then (some false) else ((windbreakref15_place.f k x0 (rd x0 x3)).bind fun t243 => (if t243 = x3 then (windbreakref15_RightIds.l0 k x0 (wrap64 (x3 + 1))) else (some false))))) else (none)) else (some true)
def windbreakref15_RightIds.f (k : Nat) (l0 : List Int) : Option (Bool) := if (l0.length : Int) > 256 then (some false) else (windbreakref15_RightIds.l0 k l0 0)
theorem windbreakref15_RightIds.mono_l : ∀ k, (∀ y0 y1, LeO (windbreakref15_RightIds.l0 k y0 y1) (windbreakref15_RightIds.l0 (k + 1) y0 y1))
  | 0 => fun _ _ r h => by simp [windbreakref15_RightIds.l0] at h
  | k + 1 => by
    have ih0 := windbreakref15_RightIds.mono_l k
    · intro y0 y1
      unfold windbreakref15_RightIds.l0
      repeat' first
      | (with_reducible exact ih0 _ _)
      | (with_reducible exact windbreakref15_place.mono _ _ _)
      | (with_reducible exact LeO.refl _)
      | (with_reducible exact LeO.none _)
      | (with_reducible refine LeO.ite ?_ ?_)
      | (with_reducible refine LeO.bind ?_ (fun _ => ?_))
      | exact ih0 _ _
      | exact windbreakref15_place.mono _ _ _
      | exact LeO.none _
      | refine LeO.ite ?_ ?_
      | refine LeO.bind ?_ (fun _ => ?_)
theorem windbreakref15_RightIds.mono : ∀ a0 k, LeO (windbreakref15_RightIds.f k a0) (windbreakref15_RightIds.f (k + 1) a0) := by
  intro a0 k
  have ih0 := windbreakref15_RightIds.mono_l k
  unfold windbreakref15_RightIds.f
  repeat' first
      | (with_reducible exact ih0 _ _)
      | (with_reducible exact windbreakref15_place.mono _ _ _)
      | (with_reducible exact LeO.refl _)
      | (with_reducible exact LeO.none _)
      | (with_reducible refine LeO.ite ?_ ?_)
      | (with_reducible refine LeO.bind ?_ (fun _ => ?_))
      | exact ih0 _ _
      | exact windbreakref15_place.mono _ _ _
      | exact LeO.none _
      | refine LeO.ite ?_ ?_
      | refine LeO.bind ?_ (fun _ => ?_)
set_option maxHeartbeats 8000000 in
set_option maxRecDepth 100000 in
theorem windbreakref15_RightIds.calls (k : Nat) (A0 : Option Addr) (c0 : Nat) (l0 : List Int) (r : Bool) (w : World) (hr0 : Kd.C (Kd.int .i64) w A0 l0.length l0) (hc0 : l0.length ≤ c0) (h : windbreakref15_RightIds.f k l0 = some r) :
    Calls Try.prog 54 #[.slice A0 l0.length c0] w fun e w' => e = .returned (.bool r) ∧ Drawn0 w w' := by
  have HR0 := Aside0.mk hr0
  have HC0 := Aside0.mk hc0
  clear hr0 hc0
  have H : (if (l0.length : Int) > 256 then (some false) else (windbreakref15_RightIds.l0 k l0 0)) = some r := h
  clear h
  by_cases c2 : (l0.length : Int) > 256
  · rw [if_pos c2] at H
    have c2b0 : decide (256 < (l0.length : Int)) = true := decide_eq_true c2
    have c2b1 : decide (256 < l0.length) = true := decide_eq_true (by omega)
    clear c2
    obtain rfl := Option.some.inj H
    go_enter Try.func54, Try.ntmps54
    go_wp2
    go_ret
    exact ⟨by first | rfl | (simp; done) | (simp [*]; done), by repeat (first | exact Drawn0.refl _ | apply Drawn0.step)⟩
  · rw [if_neg c2] at H
    have c2b0 : decide (256 < (l0.length : Int)) = false := decide_eq_false c2
    have c2b1 : decide (256 < l0.length) = false := decide_eq_false (by omega)
    clear c2
    have H' := Aside0.mk H
    clear H
    go_enter Try.func54, Try.ntmps54
    go_wp2
    go_loopg [3] k (fun kq v3 w' => ∃ (x3_1 : Int), v3 = .int .i64 x3_1 ∧ Aside0 (windbreakref15_RightIds.l0 kq l0 x3_1 = some r) ∧ Aside0 (kq ≤ k) ∧ Drawn0 w w')
    case atStart => exact ⟨(0), (by first | rfl | (simp; done) | (simp [*]; done)), H', ⟨Nat.le_refl _⟩, by repeat (first | exact Drawn0.refl _ | apply Drawn0.step)⟩
    case round =>
      clear H'
      try clear c2
      try clear c2b0
      try clear c2b1
      try clear p2
      obtain ⟨x3_1, rfl, HA, HK1, ⟨m1, rfl⟩⟩ := hrel
      cases gk with
      | zero => exact absurd HA.out (by simp [windbreakref15_RightIds.l0])
      | succ k1 =>
        have H := HA.out
        clear HA
        simp only [windbreakref15_RightIds.l0] at H
        by_cases c3 : x3_1 < (l0.length : Int)
        · rw [if_pos c3] at H
          have c3b0 : decide (x3_1 < (l0.length : Int)) = true := decide_eq_true c3
          clear c3
          by_cases c4 : 0 ≤ x3_1
          · rw [if_pos c4] at H
            have c4b0 : decide (0 ≤ x3_1) = true := decide_eq_true c4
            clear c4
            by_cases c5 : (rd l0 x3_1) < 0
            · rw [if_pos c5] at H
              have c5b0 : decide ((rd l0 x3_1) < 0) = true := decide_eq_true c5
              clear c5
              obtain rfl := Option.some.inj H
              have p240 : 0 ≤ (x3_1 : Int) := of_decide_eq_true (by first | (with_reducible assumption) | assumption)
              have q240 : x3_1 < (l0.length : Int) := of_decide_eq_true (by first | (with_reducible assumption) | assumption)
              obtain ⟨ad240, e240, hx240_0⟩ := Kd.at_int HR0.out x3_1 p240 q240
              cases e240
              replace p240 := eq_true p240
              replace q240 := eq_true q240
              go_wp2
              go_ret
              exact ⟨by first | rfl | (simp; done) | (simp [*]; done), by repeat (first | exact Drawn0.refl _ | apply Drawn0.step)⟩
            · rw [if_neg c5] at H
              have c5b0 : decide ((rd l0 x3_1) < 0) = false := decide_eq_false c5
              clear c5
              by_cases c6 : (rd l0 x3_1) > 1073741824
              · rw [if_pos c6] at H
                have c6b0 : decide (1073741824 < (rd l0 x3_1)) = true := decide_eq_true c6
                clear c6
                obtain rfl := Option.some.inj H
                have p240 : 0 ≤ (x3_1 : Int) := of_decide_eq_true (by first | (with_reducible assumption) | assumption)
                have q240 : x3_1 < (l0.length : Int) := of_decide_eq_true (by first | (with_reducible assumption) | assumption)
                obtain ⟨ad240, e240, hx240_0⟩ := Kd.at_int HR0.out x3_1 p240 q240
                cases e240
                replace p240 := eq_true p240
                replace q240 := eq_true q240
                have p241 : 0 ≤ (x3_1 : Int) := of_decide_eq_true (by first | (with_reducible assumption) | assumption)
                have q241 : x3_1 < (l0.length : Int) := of_decide_eq_true (by first | (with_reducible assumption) | assumption)
                obtain ⟨ad241, e241, hx241_0⟩ := Kd.at_int HR0.out x3_1 p241 q241
                obtain rfl : ad240 = ad241 := (by injection e241)
                replace p241 := eq_true p241
                replace q241 := eq_true q241
                go_wp2
                go_ret
                exact ⟨by first | rfl | (simp; done) | (simp [*]; done), by repeat (first | exact Drawn0.refl _ | apply Drawn0.step)⟩
              · rw [if_neg c6] at H
                have c6b0 : decide (1073741824 < (rd l0 x3_1)) = false := decide_eq_false c6
                clear c6
                replace H := Option.bind_eq_some_iff.mp H
                obtain ⟨t243, A70, H⟩ := H
                replace H : (if t243 = x3_1 then (windbreakref15_RightIds.l0 k1 l0 (wrap64 (x3_1 + 1))) else (some false)) = some r := H
                have A7 := Aside0.mk A70
                clear A70
                by_cases c8 : t243 = x3_1
                · rw [if_pos c8] at H
                  have c8b0 : (t243 == x3_1) = true := beq_iff_eq.mpr c8
                  have c8b1 : (t243 != x3_1) = false := bne_eq_false_iff_eq.mpr c8
                  clear c8
                  have H' := Aside0.mk H
                  clear H
                  have p240 : 0 ≤ (x3_1 : Int) := of_decide_eq_true (by first | (with_reducible assumption) | assumption)
                  have q240 : x3_1 < (l0.length : Int) := of_decide_eq_true (by first | (with_reducible assumption) | assumption)
                  obtain ⟨ad240, e240, hx240_0⟩ := Kd.at_int HR0.out x3_1 p240 q240
                  cases e240
                  replace p240 := eq_true p240
                  replace q240 := eq_true q240
                  have p241 : 0 ≤ (x3_1 : Int) := of_decide_eq_true (by first | (with_reducible assumption) | assumption)
                  have q241 : x3_1 < (l0.length : Int) := of_decide_eq_true (by first | (with_reducible assumption) | assumption)
                  obtain ⟨ad241, e241, hx241_0⟩ := Kd.at_int HR0.out x3_1 p241 q241
                  obtain rfl : ad240 = ad241 := (by injection e241)
                  replace p241 := eq_true p241
                  replace q241 := eq_true q241
                  have p242 : 0 ≤ (x3_1 : Int) := of_decide_eq_true (by first | (with_reducible assumption) | assumption)
                  have q242 : x3_1 < (l0.length : Int) := of_decide_eq_true (by first | (with_reducible assumption) | assumption)
                  obtain ⟨ad242, e242, hx242_0⟩ := Kd.at_int HR0.out x3_1 p242 q242
                  obtain rfl : ad240 = ad242 := (by injection e242)
                  replace p242 := eq_true p242
                  replace q242 := eq_true q242
                  go_wp2_with (first | (go_at_call 55; (with_reducible refine (windbreakref15_place.calls k1 _ _ l0 (rd l0 x3_1) t243 _ ?side1 ?side2 A7.out).mono ?_); (case side1 => repeat (first | exact HR0.out | (with_reducible refine Kd.C_alloc ?_ _) | (with_reducible refine Kd.C_drewN ?_ _) | (with_reducible refine Kd.C_drew ?_))); (case side2 => exact HC0.out); rintro e w' ⟨rfl, ⟨nd, rfl⟩⟩))
                  go_roundg k1
                  case measure => have := HK1.out; omega
                  case rel => exact ⟨(wrap64 (x3_1 + 1)), (by first | rfl | (simp; done) | (simp [*]; done)), H', ⟨by have := HK1.out; omega⟩, by repeat (first | exact Drawn0.refl _ | apply Drawn0.step)⟩
                · rw [if_neg c8] at H
                  have c8b0 : (t243 == x3_1) = false := beq_eq_false_iff_ne.mpr c8
                  have c8b1 : (t243 != x3_1) = true := bne_iff_ne.mpr c8
                  obtain rfl := Option.some.inj H
                  have p240 : 0 ≤ (x3_1 : Int) := of_decide_eq_true (by first | (with_reducible assumption) | assumption)
                  have q240 : x3_1 < (l0.length : Int) := of_decide_eq_true (by first | (with_reducible assumption) | assumption)
                  obtain ⟨ad240, e240, hx240_0⟩ := Kd.at_int HR0.out x3_1 p240 q240
                  cases e240
                  replace p240 := eq_true p240
                  replace q240 := eq_true q240
                  have p241 : 0 ≤ (x3_1 : Int) := of_decide_eq_true (by first | (with_reducible assumption) | assumption)
                  have q241 : x3_1 < (l0.length : Int) := of_decide_eq_true (by first | (with_reducible assumption) | assumption)
                  obtain ⟨ad241, e241, hx241_0⟩ := Kd.at_int HR0.out x3_1 p241 q241
                  obtain rfl : ad240 = ad241 := (by injection e241)
                  replace p241 := eq_true p241
                  replace q241 := eq_true q241
                  have p242 : 0 ≤ (x3_1 : Int) := of_decide_eq_true (by first | (with_reducible assumption) | assumption)
                  have q242 : x3_1 < (l0.length : Int) := of_decide_eq_true (by first | (with_reducible assumption) | assumption)
                  obtain ⟨ad242, e242, hx242_0⟩ := Kd.at_int HR0.out x3_1 p242 q242
                  obtain rfl : ad240 = ad242 := (by injection e242)
                  replace p242 := eq_true p242
                  replace q242 := eq_true q242
                  go_wp2_with (first | (go_at_call 55; (with_reducible refine (windbreakref15_place.calls k1 _ _ l0 (rd l0 x3_1) t243 _ ?side1 ?side2 A7.out).mono ?_); (case side1 => repeat (first | exact HR0.out | (with_reducible refine Kd.C_alloc ?_ _) | (with_reducible refine Kd.C_drewN ?_ _) | (with_reducible refine Kd.C_drew ?_))); (case side2 => exact HC0.out); rintro e w' ⟨rfl, ⟨nd, rfl⟩⟩))
                  go_ret
                  exact ⟨by first | rfl | (simp; done) | (simp [*]; done), by repeat (first | exact Drawn0.refl _ | apply Drawn0.step)⟩
          · rw [if_neg c4] at H
            exact absurd H (by simp)
        · rw [if_neg c3] at H
          have c3b0 : decide (x3_1 < (l0.length : Int)) = false := decide_eq_false c3
          clear c3
          obtain rfl := Option.some.inj H
          go_wp2
          go_ret
          exact ⟨by first | rfl | (simp; done) | (simp [*]; done), by repeat (first | exact Drawn0.refl _ | apply Drawn0.step)⟩


/-! ### windbreakref15_Right: function 33 -/
mutual
def windbreakref15_Right.j0 : Nat → Bool → List Int → List Int → List (List Int) → Option (Bool)
  | 0, _, _, _, _ => none
  | k + 1, x25, x245000, x245001, x245002 => if x25 = true then (some false) else (windbreakref15_Right.l0 k 0 x245000 x245001 x245002)
def windbreakref15_Right.l0 : Nat → Int → List Int → List Int → List (List Int) → Option (Bool)
  | 0, _, _, _, _ => none
  | k + 1, x4, x245000, x245001, x245002 => if x4 < (x245002.length : Int) then (if 0 ≤ x4 then (if x4 < (x245001.length : Int) then (if (rd x245001 x4) < 2 then (windbreakref15_Right.j2 k x4 true x245000 x245001 x245002) else (if (rd x245001 x4) > 32 then (windbreakref15_Right.j2 k x4 true x245000 x245001 x245002) else (windbreakref15_Right.j2 k x4 (((rd_L1 x245002 x4).length : Int) != (x245000.length : Int)) x245000 x245001 x245002))) else (none)) else (none)) else (some true)
def windbreakref15_Right.j2 : Nat → Int → Bool → List Int → List Int → List (List Int) → Option (Bool)
  | 0, _, _, _, _, _ => none
  | k + 1, x4, x58, x245000, x245001, x245002 => if x58 = true then (some false) else (windbreakref15_Right.l1 k x4 0 x245000 x245001 x245002)
def windbreakref15_Right.l1 : Nat → Int → Int → List Int → List Int → List (List Int) → Option (Bool)
  | 0, _, _, _, _, _ => none
  | k + 1, x4, x5, x245000, x245001, x245002 => if x5 < (x245000.length : Int) then (if 0 ≤ x4 then (if x4 < (x245002.length : Int) then (if 0 ≤ x5 then (if x5 < ((rd_L1 x245002 x4).length : Int) then (if (rd (rd_L1 x245002 x4) x5) < 0 then (some false) else (if x4 < (x245001.length : Int) then (if (rd (rd_L1 x245002 x4) x5) ≥ (rd x245001 x4) then (some false) else (windbreakref15_Right.l1 k x4 (wrap64 (x5 + 1)) x245000 x245001 x245002)) else (none))) else (none)) else (none)) else (none)) else (none)) else (windbreakref15_Right.l0 k (wrap64 (x4 + 1)) x245000 x245001 x245002)
end
def windbreakref15_Right.f (k : Nat) (l0_0 : List Int) (l0_1 : List Int) (l0_2 : List (List Int)) : Option (Bool) := (windbreakref15_RightIds.f k l0_0).bind fun t245 => (if t245 = true then (if (l0_2.length : Int) > 16 then (windbreakref15_Right.j0 k true l0_0 l0_1 l0_2) else (windbreakref15_Right.j0 k ((l0_1.length : Int) != (l0_2.length : Int)) l0_0 l0_1 l0_2)) else (windbreakref15_Right.j0 k true l0_0 l0_1 l0_2))
theorem windbreakref15_Right.mono_l : ∀ k, (∀ y0 y1 y2 y3, LeO (windbreakref15_Right.j0 k y0 y1 y2 y3) (windbreakref15_Right.j0 (k + 1) y0 y1 y2 y3)) ∧ (∀ y0 y1 y2 y3, LeO (windbreakref15_Right.l0 k y0 y1 y2 y3) (windbreakref15_Right.l0 (k + 1) y0 y1 y2 y3)) ∧ (∀ y0 y1 y2 y3 y4, LeO (windbreakref15_Right.j2 k y0 y1 y2 y3 y4) (windbreakref15_Right.j2 (k + 1) y0 y1 y2 y3 y4)) ∧ (∀ y0 y1 y2 y3 y4, LeO (windbreakref15_Right.l1 k y0 y1 y2 y3 y4) (windbreakref15_Right.l1 (k + 1) y0 y1 y2 y3 y4))
  | 0 => ⟨fun _ _ _ _ r h => by simp [windbreakref15_Right.j0] at h, fun _ _ _ _ r h => by simp [windbreakref15_Right.l0] at h, fun _ _ _ _ _ r h => by simp [windbreakref15_Right.j2] at h, fun _ _ _ _ _ r h => by simp [windbreakref15_Right.l1] at h⟩
  | k + 1 => by
    obtain ⟨ih0, ih1, ih2, ih3⟩ := windbreakref15_Right.mono_l k
    refine ⟨?_, ?_, ?_, ?_⟩
    · intro y0 y1 y2 y3
      unfold windbreakref15_Right.j0
      repeat' first
      | (with_reducible exact ih0 _ _ _ _)
      | (with_reducible exact ih1 _ _ _ _)
      | (with_reducible exact ih2 _ _ _ _ _)
      | (with_reducible exact ih3 _ _ _ _ _)
      | (with_reducible exact windbreakref15_RightIds.mono _ _)
      | (with_reducible exact LeO.refl _)
      | (with_reducible exact LeO.none _)
      | (with_reducible refine LeO.ite ?_ ?_)
      | (with_reducible refine LeO.bind ?_ (fun _ => ?_))
      | exact ih0 _ _ _ _
      | exact ih1 _ _ _ _
      | exact ih2 _ _ _ _ _
      | exact ih3 _ _ _ _ _
      | exact windbreakref15_RightIds.mono _ _
      | exact LeO.none _
      | refine LeO.ite ?_ ?_
      | refine LeO.bind ?_ (fun _ => ?_)
    · intro y0 y1 y2 y3
      unfold windbreakref15_Right.l0
      repeat' first
      | (with_reducible exact ih0 _ _ _ _)
      | (with_reducible exact ih1 _ _ _ _)
      | (with_reducible exact ih2 _ _ _ _ _)
      | (with_reducible exact ih3 _ _ _ _ _)
      | (with_reducible exact windbreakref15_RightIds.mono _ _)
      | (with_reducible exact LeO.refl _)
      | (with_reducible exact LeO.none _)
      | (with_reducible refine LeO.ite ?_ ?_)
      | (with_reducible refine LeO.bind ?_ (fun _ => ?_))
      | exact ih0 _ _ _ _
      | exact ih1 _ _ _ _
      | exact ih2 _ _ _ _ _
      | exact ih3 _ _ _ _ _
      | exact windbreakref15_RightIds.mono _ _
      | exact LeO.none _
      | refine LeO.ite ?_ ?_
      | refine LeO.bind ?_ (fun _ => ?_)
    · intro y0 y1 y2 y3 y4
      unfold windbreakref15_Right.j2
      repeat' first
      | (with_reducible exact ih0 _ _ _ _)
      | (with_reducible exact ih1 _ _ _ _)
      | (with_reducible exact ih2 _ _ _ _ _)
      | (with_reducible exact ih3 _ _ _ _ _)
      | (with_reducible exact windbreakref15_RightIds.mono _ _)
      | (with_reducible exact LeO.refl _)
      | (with_reducible exact LeO.none _)
      | (with_reducible refine LeO.ite ?_ ?_)
      | (with_reducible refine LeO.bind ?_ (fun _ => ?_))
      | exact ih0 _ _ _ _
      | exact ih1 _ _ _ _
      | exact ih2 _ _ _ _ _
      | exact ih3 _ _ _ _ _
      | exact windbreakref15_RightIds.mono _ _
      | exact LeO.none _
      | refine LeO.ite ?_ ?_
      | refine LeO.bind ?_ (fun _ => ?_)
    · intro y0 y1 y2 y3 y4
      unfold windbreakref15_Right.l1
      repeat' first
      | (with_reducible exact ih0 _ _ _ _)
      | (with_reducible exact ih1 _ _ _ _)
      | (with_reducible exact ih2 _ _ _ _ _)
      | (with_reducible exact ih3 _ _ _ _ _)
      | (with_reducible exact windbreakref15_RightIds.mono _ _)
      | (with_reducible exact LeO.refl _)
      | (with_reducible exact LeO.none _)
      | (with_reducible refine LeO.ite ?_ ?_)
      | (with_reducible refine LeO.bind ?_ (fun _ => ?_))
      | exact ih0 _ _ _ _
      | exact ih1 _ _ _ _
      | exact ih2 _ _ _ _ _
      | exact ih3 _ _ _ _ _
      | exact windbreakref15_RightIds.mono _ _
      | exact LeO.none _
      | refine LeO.ite ?_ ?_
      | refine LeO.bind ?_ (fun _ => ?_)
theorem windbreakref15_Right.mono : ∀ a0 a1 a2 k, LeO (windbreakref15_Right.f k a0 a1 a2) (windbreakref15_Right.f (k + 1) a0 a1 a2) := by
  intro a0 a1 a2 k
  obtain ⟨ih0, ih1, ih2, ih3⟩ := windbreakref15_Right.mono_l k
  unfold windbreakref15_Right.f
  repeat' first
      | (with_reducible exact ih0 _ _ _ _)
      | (with_reducible exact ih1 _ _ _ _)
      | (with_reducible exact ih2 _ _ _ _ _)
      | (with_reducible exact ih3 _ _ _ _ _)
      | (with_reducible exact windbreakref15_RightIds.mono _ _)
      | (with_reducible exact LeO.refl _)
      | (with_reducible exact LeO.none _)
      | (with_reducible refine LeO.ite ?_ ?_)
      | (with_reducible refine LeO.bind ?_ (fun _ => ?_))
      | exact ih0 _ _ _ _
      | exact ih1 _ _ _ _
      | exact ih2 _ _ _ _ _
      | exact ih3 _ _ _ _ _
      | exact windbreakref15_RightIds.mono _ _
      | exact LeO.none _
      | refine LeO.ite ?_ ?_
      | refine LeO.bind ?_ (fun _ => ?_)
set_option maxHeartbeats 8000000 in
set_option maxRecDepth 100000 in
theorem windbreakref15_Right.calls (k : Nat) (A0_0 : Option Addr) (c0_0 : Nat) (l0_0 : List Int) (A0_1 : Option Addr) (c0_1 : Nat) (l0_1 : List Int) (A0_2 : Option Addr) (c0_2 : Nat) (l0_2 : List (List Int)) (r : Bool) (w : World) (hr0_0 : Kd.C (Kd.int .i64) w A0_0 l0_0.length l0_0) (hc0_0 : l0_0.length ≤ c0_0) (hr0_1 : Kd.C (Kd.int .i64) w A0_1 l0_1.length l0_1) (hc0_1 : l0_1.length ≤ c0_1) (hr0_2 : Kd.C (Kd.slice 3 (Kd.int .i64)) w A0_2 l0_2.length l0_2) (hc0_2 : l0_2.length ≤ c0_2) (h : windbreakref15_Right.f k l0_0 l0_1 l0_2 = some r) :
    Calls Try.prog 33 #[.agg #[.slice A0_0 l0_0.length c0_0, .slice A0_1 l0_1.length c0_1, .slice A0_2 l0_2.length c0_2]] w fun e w' => e = .returned (.bool r) ∧ Below w.heap.size w w' := by
  have hu43 := Try.underlying43
  have HR0_0 := Aside0.mk hr0_0
  have HC0_0 := Aside0.mk hc0_0
  clear hr0_0 hc0_0
  have HR0_1 := Aside0.mk hr0_1
  have HC0_1 := Aside0.mk hc0_1
  clear hr0_1 hc0_1
  have HR0_2 := Aside0.mk hr0_2
  have HC0_2 := Aside0.mk hc0_2
  clear hr0_2 hc0_2
  have HB := Aside0.mk (Below.refl w.heap.size w)
  have H : ((windbreakref15_RightIds.f k l0_0).bind fun t245 => (if t245 = true then (if (l0_2.length : Int) > 16 then (windbreakref15_Right.j0 k true l0_0 l0_1 l0_2) else (windbreakref15_Right.j0 k ((l0_1.length : Int) != (l0_2.length : Int)) l0_0 l0_1 l0_2)) else (windbreakref15_Right.j0 k true l0_0 l0_1 l0_2))) = some r := h
  clear h
  replace H := Option.bind_eq_some_iff.mp H
  obtain ⟨t245, A20, H⟩ := H
  replace H : (if t245 = true then (if (l0_2.length : Int) > 16 then (windbreakref15_Right.j0 k true l0_0 l0_1 l0_2) else (windbreakref15_Right.j0 k ((l0_1.length : Int) != (l0_2.length : Int)) l0_0 l0_1 l0_2)) else (windbreakref15_Right.j0 k true l0_0 l0_1 l0_2)) = some r := H
  have A2 := Aside0.mk A20
  clear A20
  have HC3 := Aside0.mk H
  clear H
  go_enter Try.func33, Try.ntmps33
  go_upto_region 2 with (first | ((with_reducible refine gate_dst (N := 1) rfl ?_); (try (refine gate_guard (by rfl) ?_; dsimp only)); refine box_event ?hg (N := 1) ?hd (cs := #[.slice A0_0 l0_0.length c0_0, .slice A0_1 l0_1.length c0_1, .slice A0_2 l0_2.length c0_2]) (t := 43) ?hr ?_; (case hd => rfl); (case hg => rfl); (case hr => first | (go_simp; done) | (go_simp; rfl)); intro gb244 hg w4 hbox hb; have n0_ := Aside0.mk (below_step (by repeat (first | (with_reducible first | exact HB.out | apply below_alloc | apply pw_below_drewN | apply below_drew1) | exact HB.out)) hb); have n1_ := Aside0.mk (hbox); have n2_ := Aside0.mk ((by rw [hg]; exact (below_size (by repeat (first | (with_reducible first | exact HB.out | apply below_alloc | apply pw_below_drewN | apply below_drew1) | exact HB.out))) : w.heap.size ≤ gb244)); have n3_ := Aside0.mk ((by rw [hg]; exact (below_size (by repeat (first | (with_reducible first | exact HB.out | apply below_alloc | apply pw_below_drewN | apply below_drew1) | exact HB.out))) : w.heap.size ≤ gb244)); clear HB; have HB := n0_; have BK244 := n1_; have GW244 := n2_; have GE244 := n3_; clear n0_ n1_ n2_ n3_; clear hb hbox hg; have hcz5_0 : w4.cell? ⟨gb244, 0, none⟩ = some (.slice A0_0 l0_0.length c0_0) := (blk_cell BK244.out 0).trans rfl; have hcz5_1 : w4.cell? ⟨gb244, 1, none⟩ = some (.slice A0_1 l0_1.length c0_1) := (blk_cell BK244.out 1).trans rfl; have hcz5_2 : w4.cell? ⟨gb244, 2, none⟩ = some (.slice A0_2 l0_2.length c0_2) := (blk_cell BK244.out 2).trans rfl; have hfz5_0 := blk_frozen BK244.out 0; have hfz5_1 := blk_frozen BK244.out 1; have hfz5_2 := blk_frozen BK244.out 2) | (go_at_call 54; (with_reducible refine (windbreakref15_RightIds.calls k _ _ l0_0 t245 _ ?side1 ?side2 A2.out).mono ?_); (case side1 => repeat (first | exact (Kd.C_below HR0_0.out HB.out) | (with_reducible refine Kd.C_alloc ?_ _) | (with_reducible refine Kd.C_drewN ?_ _) | (with_reducible refine Kd.C_drew ?_))); (case side2 => exact HC0_0.out); rintro e w' ⟨rfl, ⟨nd, rfl⟩⟩; (try first | exact ⟨rfl, _, World.drewN_drewN _ _ _⟩ | exact ⟨rfl, _, Eq.trans (World.drewN_drewN _ _ _) (congrArg (World.drewN _) (Nat.add_assoc _ _ _))⟩)))
  repeat (go_quiet (first | ((with_reducible refine gate_dst (N := 1) rfl ?_); (try (refine gate_guard (by rfl) ?_; dsimp only)); refine box_event ?hg (N := 1) ?hd (cs := #[.slice A0_0 l0_0.length c0_0, .slice A0_1 l0_1.length c0_1, .slice A0_2 l0_2.length c0_2]) (t := 43) ?hr ?_; (case hd => rfl); (case hg => rfl); (case hr => first | (go_simp; done) | (go_simp; rfl)); intro gb244 hg w4 hbox hb; have n0_ := Aside0.mk (below_step (by repeat (first | (with_reducible first | exact HB.out | apply below_alloc | apply pw_below_drewN | apply below_drew1) | exact HB.out)) hb); have n1_ := Aside0.mk (hbox); have n2_ := Aside0.mk ((by rw [hg]; exact (below_size (by repeat (first | (with_reducible first | exact HB.out | apply below_alloc | apply pw_below_drewN | apply below_drew1) | exact HB.out))) : w.heap.size ≤ gb244)); have n3_ := Aside0.mk ((by rw [hg]; exact (below_size (by repeat (first | (with_reducible first | exact HB.out | apply below_alloc | apply pw_below_drewN | apply below_drew1) | exact HB.out))) : w.heap.size ≤ gb244)); clear HB; have HB := n0_; have BK244 := n1_; have GW244 := n2_; have GE244 := n3_; clear n0_ n1_ n2_ n3_; clear hb hbox hg; have hcz5_0 : w4.cell? ⟨gb244, 0, none⟩ = some (.slice A0_0 l0_0.length c0_0) := (blk_cell BK244.out 0).trans rfl; have hcz5_1 : w4.cell? ⟨gb244, 1, none⟩ = some (.slice A0_1 l0_1.length c0_1) := (blk_cell BK244.out 1).trans rfl; have hcz5_2 : w4.cell? ⟨gb244, 2, none⟩ = some (.slice A0_2 l0_2.length c0_2) := (blk_cell BK244.out 2).trans rfl; have hfz5_0 := blk_frozen BK244.out 0; have hfz5_1 := blk_frozen BK244.out 1; have hfz5_2 := blk_frozen BK244.out 2) | (go_at_call 54; (with_reducible refine (windbreakref15_RightIds.calls k _ _ l0_0 t245 _ ?side1 ?side2 A2.out).mono ?_); (case side1 => repeat (first | exact (Kd.C_below HR0_0.out HB.out) | (with_reducible refine Kd.C_alloc ?_ _) | (with_reducible refine Kd.C_drewN ?_ _) | (with_reducible refine Kd.C_drew ?_))); (case side2 => exact HC0_0.out); rintro e w' ⟨rfl, ⟨nd, rfl⟩⟩; (try first | exact ⟨rfl, _, World.drewN_drewN _ _ _⟩ | exact ⟨rfl, _, Eq.trans (World.drewN_drewN _ _ _) (congrArg (World.drewN _) (Nat.add_assoc _ _ _))⟩))); go_upto_region 2 with (first | ((with_reducible refine gate_dst (N := 1) rfl ?_); (try (refine gate_guard (by rfl) ?_; dsimp only)); refine box_event ?hg (N := 1) ?hd (cs := #[.slice A0_0 l0_0.length c0_0, .slice A0_1 l0_1.length c0_1, .slice A0_2 l0_2.length c0_2]) (t := 43) ?hr ?_; (case hd => rfl); (case hg => rfl); (case hr => first | (go_simp; done) | (go_simp; rfl)); intro gb244 hg w4 hbox hb; have n0_ := Aside0.mk (below_step (by repeat (first | (with_reducible first | exact HB.out | apply below_alloc | apply pw_below_drewN | apply below_drew1) | exact HB.out)) hb); have n1_ := Aside0.mk (hbox); have n2_ := Aside0.mk ((by rw [hg]; exact (below_size (by repeat (first | (with_reducible first | exact HB.out | apply below_alloc | apply pw_below_drewN | apply below_drew1) | exact HB.out))) : w.heap.size ≤ gb244)); have n3_ := Aside0.mk ((by rw [hg]; exact (below_size (by repeat (first | (with_reducible first | exact HB.out | apply below_alloc | apply pw_below_drewN | apply below_drew1) | exact HB.out))) : w.heap.size ≤ gb244)); clear HB; have HB := n0_; have BK244 := n1_; have GW244 := n2_; have GE244 := n3_; clear n0_ n1_ n2_ n3_; clear hb hbox hg; have hcz5_0 : w4.cell? ⟨gb244, 0, none⟩ = some (.slice A0_0 l0_0.length c0_0) := (blk_cell BK244.out 0).trans rfl; have hcz5_1 : w4.cell? ⟨gb244, 1, none⟩ = some (.slice A0_1 l0_1.length c0_1) := (blk_cell BK244.out 1).trans rfl; have hcz5_2 : w4.cell? ⟨gb244, 2, none⟩ = some (.slice A0_2 l0_2.length c0_2) := (blk_cell BK244.out 2).trans rfl; have hfz5_0 := blk_frozen BK244.out 0; have hfz5_1 := blk_frozen BK244.out 1; have hfz5_2 := blk_frozen BK244.out 2) | (go_at_call 54; (with_reducible refine (windbreakref15_RightIds.calls k _ _ l0_0 t245 _ ?side1 ?side2 A2.out).mono ?_); (case side1 => repeat (first | exact (Kd.C_below HR0_0.out HB.out) | (with_reducible refine Kd.C_alloc ?_ _) | (with_reducible refine Kd.C_drewN ?_ _) | (with_reducible refine Kd.C_drew ?_))); (case side2 => exact HC0_0.out); rintro e w' ⟨rfl, ⟨nd, rfl⟩⟩; (try first | exact ⟨rfl, _, World.drewN_drewN _ _ _⟩ | exact ⟨rfl, _, Eq.trans (World.drewN_drewN _ _ _) (congrArg (World.drewN _) (Nat.add_assoc _ _ _))⟩))))
  (try simp only [Act.put, List.setIfInBounds_toArray, List.set_cons_zero, List.set_cons_succ])
  go_cut [25] (fun v25 wc => ∃ (kq : Nat) (x25_2 : Bool), v25 = .bool x25_2 ∧ Aside0 (windbreakref15_Right.j0 kq x25_2 l0_0 l0_1 l0_2 = some r) ∧ Aside0 (kq ≤ k) ∧ Aside0 (wc.heap[gb244]? = some (.cells #[(.slice A0_0 l0_0.length c0_0), (.slice A0_1 l0_1.length c0_1), (.slice A0_2 l0_2.length c0_2)] 43 (0, 0))) ∧ Aside0 (Below w.heap.size w wc))
  case first =>
    have H := HC3.out
    clear HC3
    by_cases c6 : t245 = true
    · subst c6
      have H1 : (if (l0_2.length : Int) > 16 then (windbreakref15_Right.j0 k true l0_0 l0_1 l0_2) else (windbreakref15_Right.j0 k ((l0_1.length : Int) != (l0_2.length : Int)) l0_0 l0_1 l0_2)) = some r := by rw [if_pos rfl] at H; exact H
      clear H
      have H := H1
      clear H1
      by_cases c7 : (l0_2.length : Int) > 16
      · rw [if_pos c7] at H
        have c7b0 : decide (16 < (l0_2.length : Int)) = true := decide_eq_true c7
        have c7b1 : decide (16 < l0_2.length) = true := decide_eq_true (by omega)
        clear c7
        (first | rw [c7b0] | (simp only [i64_w, i32_w]; rw [c7b0]) | skip)
        have H' := Aside0.mk H
        clear H
        have hcz8_0 : w4.cell? ⟨gb244, 0, none⟩ = some (.slice A0_0 l0_0.length c0_0) := (blk_cell BK244.out 0).trans rfl
        have hcz8_1 : w4.cell? ⟨gb244, 1, none⟩ = some (.slice A0_1 l0_1.length c0_1) := (blk_cell BK244.out 1).trans rfl
        have hcz8_2 : w4.cell? ⟨gb244, 2, none⟩ = some (.slice A0_2 l0_2.length c0_2) := (blk_cell BK244.out 2).trans rfl
        have hfz8_0 := blk_frozen BK244.out 0
        have hfz8_1 := blk_frozen BK244.out 1
        have hfz8_2 := blk_frozen BK244.out 2
        go_wp2
        repeat (go_quiet (fail); try go_wp2)
        go_meet
        case rel => exact ⟨_, (true), (by first | rfl | (simp; done) | (simp [*]; done)), H', ⟨by first | omega | exact Nat.le_refl _⟩, ⟨by (with_reducible repeat (first | refine blk_drewN ?_ _ | refine blk_drew ?_ | refine blk_alloc ?_ _)); exact BK244.out⟩, ⟨by repeat (first | (with_reducible first | exact HB.out | apply below_alloc | apply pw_below_drewN | apply below_drew1 | refine below_set ?_ GE244.out) | exact HB.out)⟩⟩
      · rw [if_neg c7] at H
        have c7b0 : decide (16 < (l0_2.length : Int)) = false := decide_eq_false c7
        have c7b1 : decide (16 < l0_2.length) = false := decide_eq_false (by omega)
        clear c7
        (first | rw [c7b0] | (simp only [i64_w, i32_w]; rw [c7b0]) | skip)
        have H' := Aside0.mk H
        clear H
        have hcz9_0 : w4.cell? ⟨gb244, 0, none⟩ = some (.slice A0_0 l0_0.length c0_0) := (blk_cell BK244.out 0).trans rfl
        have hcz9_1 : w4.cell? ⟨gb244, 1, none⟩ = some (.slice A0_1 l0_1.length c0_1) := (blk_cell BK244.out 1).trans rfl
        have hcz9_2 : w4.cell? ⟨gb244, 2, none⟩ = some (.slice A0_2 l0_2.length c0_2) := (blk_cell BK244.out 2).trans rfl
        have hfz9_0 := blk_frozen BK244.out 0
        have hfz9_1 := blk_frozen BK244.out 1
        have hfz9_2 := blk_frozen BK244.out 2
        go_wp2
        repeat (go_quiet (fail); try go_wp2)
        go_meet
        case rel => exact ⟨_, (((l0_1.length : Int) != (l0_2.length : Int))), (by first | rfl | (simp; done) | (simp [*]; done)), H', ⟨by first | omega | exact Nat.le_refl _⟩, ⟨by (with_reducible repeat (first | refine blk_drewN ?_ _ | refine blk_drew ?_ | refine blk_alloc ?_ _)); exact BK244.out⟩, ⟨by repeat (first | (with_reducible first | exact HB.out | apply below_alloc | apply pw_below_drewN | apply below_drew1 | refine below_set ?_ GE244.out) | exact HB.out)⟩⟩
    · replace c6 := Bool.eq_false_iff.mpr c6
      subst c6
      have H1 : (windbreakref15_Right.j0 k true l0_0 l0_1 l0_2) = some r := by rw [if_neg (show ¬ (false = true) by decide)] at H; exact H
      clear H
      have H := H1
      clear H1
      have H' := Aside0.mk H
      clear H
      go_wp2
      repeat (go_quiet (fail); try go_wp2)
      go_meet
      case rel => exact ⟨_, (true), (by first | rfl | (simp; done) | (simp [*]; done)), H', ⟨by first | omega | exact Nat.le_refl _⟩, ⟨by (with_reducible repeat (first | refine blk_drewN ?_ _ | refine blk_drew ?_ | refine blk_alloc ?_ _)); exact BK244.out⟩, ⟨by repeat (first | (with_reducible first | exact HB.out | apply below_alloc | apply pw_below_drewN | apply below_drew1 | refine below_set ?_ GE244.out) | exact HB.out)⟩⟩
  case rest =>
    clear HC3
    try clear p2
    try clear c3
    try clear c6
    try clear c7
    try clear c7b0
    try clear c7b1
    try clear hcz5_0
    try clear hcz5_1
    try clear hcz5_2
    try clear hcz8_0
    try clear hcz8_1
    try clear hcz8_2
    try clear hcz9_0
    try clear hcz9_1
    try clear hcz9_2
    try clear hfz5_0
    try clear hfz5_1
    try clear hfz5_2
    try clear hfz8_0
    try clear hfz8_1
    try clear hfz8_2
    try clear hfz9_0
    try clear hfz9_1
    try clear hfz9_2
    obtain ⟨kq, x25_2, rfl, HA, HJ2, BK244, HB⟩ := hcut
    cases kq with
    | zero => exact absurd HA.out (by simp [windbreakref15_Right.j0])
    | succ kj2 =>
      have H := HA.out
      clear HA
      simp only [windbreakref15_Right.j0] at H
      by_cases c10 : x25_2 = true
      · subst c10
        have H1 : (some false) = some r := by rw [if_pos rfl] at H; exact H
        clear H
        have H := H1
        clear H1
        obtain rfl := Option.some.inj H
        go_wp2
        repeat (go_quiet (fail); try go_wp2)
        go_ret
        exact ⟨by first | rfl | (simp [errW_none, errW_some] <;> rfl) | (simp [*, errW_none, errW_some] <;> rfl), by repeat (first | (with_reducible first | exact HB.out | apply below_alloc | apply pw_below_drewN | apply below_drew1 | refine below_set ?_ GE244.out) | exact HB.out)⟩
      · replace c10 := Bool.eq_false_iff.mpr c10
        subst c10
        have H1 : (windbreakref15_Right.l0 kj2 0 l0_0 l0_1 l0_2) = some r := by rw [if_neg (show ¬ (false = true) by decide)] at H; exact H
        clear H
        have H := H1
        clear H1
        have H' := Aside0.mk H
        clear H
        go_wp2
        repeat (go_quiet (fail); try go_wp2)
        go_loopg [4] kj2 (fun kq v4 w' => ∃ (x4_2 : Int), v4 = .int .i64 x4_2 ∧ Aside0 (windbreakref15_Right.l0 kq x4_2 l0_0 l0_1 l0_2 = some r) ∧ Aside0 (kq ≤ kj2) ∧ Aside0 (w'.heap[gb244]? = some (.cells #[(.slice A0_0 l0_0.length c0_0), (.slice A0_1 l0_1.length c0_1), (.slice A0_2 l0_2.length c0_2)] 43 (0, 0))) ∧ Aside0 (Below w.heap.size w w'))
        case atStart => exact ⟨(0), (by first | rfl | (simp; done) | (simp [*]; done)), H', ⟨Nat.le_refl _⟩, ⟨by (with_reducible repeat (first | refine blk_drewN ?_ _ | refine blk_drew ?_ | refine blk_alloc ?_ _)); exact BK244.out⟩, ⟨by repeat (first | (with_reducible first | exact HB.out | apply below_alloc | apply pw_below_drewN | apply below_drew1 | refine below_set ?_ GE244.out) | exact HB.out)⟩⟩
        case round =>
          clear H'
          try clear c1
          try clear p2
          try clear c3
          try clear c6
          try clear c7
          try clear c7b0
          try clear c7b1
          try clear c10
          try clear hcz5_0
          try clear hcz5_1
          try clear hcz5_2
          try clear hcz8_0
          try clear hcz8_1
          try clear hcz8_2
          try clear hcz9_0
          try clear hcz9_1
          try clear hcz9_2
          try clear hfz5_0
          try clear hfz5_1
          try clear hfz5_2
          try clear hfz8_0
          try clear hfz8_1
          try clear hfz8_2
          try clear hfz9_0
          try clear hfz9_1
          try clear hfz9_2
          try clear p2
          obtain ⟨x4_2, rfl, HA, HK2, BK244, HB⟩ := hrel
          cases gk with
          | zero => exact absurd HA.out (by simp [windbreakref15_Right.l0])
          | succ k2 =>
            have H := HA.out
            clear HA
            simp only [windbreakref15_Right.l0] at H
            by_cases c11 : x4_2 < (l0_2.length : Int)
            · rw [if_pos c11] at H
              have c11b0 : decide (x4_2 < (l0_2.length : Int)) = true := decide_eq_true c11
              clear c11
              have HC12 := Aside0.mk H
              clear H
              have hcz13_0 : wr.cell? ⟨gb244, 0, none⟩ = some (.slice A0_0 l0_0.length c0_0) := (blk_cell BK244.out 0).trans rfl
              have hcz13_1 : wr.cell? ⟨gb244, 1, none⟩ = some (.slice A0_1 l0_1.length c0_1) := (blk_cell BK244.out 1).trans rfl
              have hcz13_2 : wr.cell? ⟨gb244, 2, none⟩ = some (.slice A0_2 l0_2.length c0_2) := (blk_cell BK244.out 2).trans rfl
              have hfz13_0 := blk_frozen BK244.out 0
              have hfz13_1 := blk_frozen BK244.out 1
              have hfz13_2 := blk_frozen BK244.out 2
              go_upto_region 7 with (fail)
              repeat (go_quiet (fail); go_upto_region 7 with (fail))
              go_cut [58] (fun v58 wc => ∃ (kq : Nat) (x58_11 : Bool), v58 = .bool x58_11 ∧ Aside0 (windbreakref15_Right.j2 kq x4_2 x58_11 l0_0 l0_1 l0_2 = some r) ∧ Aside0 (kq ≤ k2) ∧ Aside0 (wc.heap[gb244]? = some (.cells #[(.slice A0_0 l0_0.length c0_0), (.slice A0_1 l0_1.length c0_1), (.slice A0_2 l0_2.length c0_2)] 43 (0, 0))) ∧ Aside0 (Below w.heap.size w wc))
              case first =>
                have H := HC12.out
                clear HC12
                by_cases c14 : 0 ≤ x4_2
                · rw [if_pos c14] at H
                  have c14b0 : decide (0 ≤ x4_2) = true := decide_eq_true c14
                  clear c14
                  (first | rw [c14b0] | (simp only [i64_w, i32_w]; rw [c14b0]) | skip)
                  by_cases c15 : x4_2 < (l0_1.length : Int)
                  · rw [if_pos c15] at H
                    have c15b0 : decide (x4_2 < (l0_1.length : Int)) = true := decide_eq_true c15
                    clear c15
                    by_cases c16 : (rd l0_1 x4_2) < 2
                    · rw [if_pos c16] at H
                      have c16b0 : decide ((rd l0_1 x4_2) < 2) = true := decide_eq_true c16
                      clear c16
                      have H' := Aside0.mk H
                      clear H
                      have hcz17_0 : wr.cell? ⟨gb244, 0, none⟩ = some (.slice A0_0 l0_0.length c0_0) := (blk_cell BK244.out 0).trans rfl
                      have hcz17_1 : wr.cell? ⟨gb244, 1, none⟩ = some (.slice A0_1 l0_1.length c0_1) := (blk_cell BK244.out 1).trans rfl
                      have hcz17_2 : wr.cell? ⟨gb244, 2, none⟩ = some (.slice A0_2 l0_2.length c0_2) := (blk_cell BK244.out 2).trans rfl
                      have hfz17_0 := blk_frozen BK244.out 0
                      have hfz17_1 := blk_frozen BK244.out 1
                      have hfz17_2 := blk_frozen BK244.out 2
                      have p246 : 0 ≤ (x4_2 : Int) := of_decide_eq_true (by first | (with_reducible assumption) | assumption)
                      have q246 : x4_2 < (l0_1.length : Int) := of_decide_eq_true (by first | (with_reducible assumption) | assumption)
                      obtain ⟨ad246, e246, hx246_0⟩ := Kd.at_int HR0_1.out x4_2 p246 q246
                      cases e246
                      replace hx246_0 := (HB.out.cell (World.block_lt_of_cell? w _ hx246_0)).trans hx246_0
                      replace p246 := eq_true p246
                      replace q246 := eq_true q246
                      go_wp2
                      repeat (go_quiet (fail); try go_wp2)
                      go_meet
                      case rel => exact ⟨_, (true), (by first | rfl | (simp; done) | (simp [*]; done)), H', ⟨by have := HJ2.out; have := HK2.out; first | omega | exact Nat.le_refl _⟩, ⟨by (with_reducible repeat (first | refine blk_drewN ?_ _ | refine blk_drew ?_ | refine blk_alloc ?_ _)); exact BK244.out⟩, ⟨by repeat (first | (with_reducible first | exact HB.out | apply below_alloc | apply pw_below_drewN | apply below_drew1 | refine below_set ?_ GE244.out) | exact HB.out)⟩⟩
                    · rw [if_neg c16] at H
                      have c16b0 : decide ((rd l0_1 x4_2) < 2) = false := decide_eq_false c16
                      clear c16
                      by_cases c18 : (rd l0_1 x4_2) > 32
                      · rw [if_pos c18] at H
                        have c18b0 : decide (32 < (rd l0_1 x4_2)) = true := decide_eq_true c18
                        clear c18
                        have H' := Aside0.mk H
                        clear H
                        have hcz19_0 : wr.cell? ⟨gb244, 0, none⟩ = some (.slice A0_0 l0_0.length c0_0) := (blk_cell BK244.out 0).trans rfl
                        have hcz19_1 : wr.cell? ⟨gb244, 1, none⟩ = some (.slice A0_1 l0_1.length c0_1) := (blk_cell BK244.out 1).trans rfl
                        have hcz19_2 : wr.cell? ⟨gb244, 2, none⟩ = some (.slice A0_2 l0_2.length c0_2) := (blk_cell BK244.out 2).trans rfl
                        have hfz19_0 := blk_frozen BK244.out 0
                        have hfz19_1 := blk_frozen BK244.out 1
                        have hfz19_2 := blk_frozen BK244.out 2
                        have p246 : 0 ≤ (x4_2 : Int) := of_decide_eq_true (by first | (with_reducible assumption) | assumption)
                        have q246 : x4_2 < (l0_1.length : Int) := of_decide_eq_true (by first | (with_reducible assumption) | assumption)
                        obtain ⟨ad246, e246, hx246_0⟩ := Kd.at_int HR0_1.out x4_2 p246 q246
                        cases e246
                        replace hx246_0 := (HB.out.cell (World.block_lt_of_cell? w _ hx246_0)).trans hx246_0
                        replace p246 := eq_true p246
                        replace q246 := eq_true q246
                        have p247 : 0 ≤ (x4_2 : Int) := of_decide_eq_true (by first | (with_reducible assumption) | assumption)
                        have q247 : x4_2 < (l0_1.length : Int) := of_decide_eq_true (by first | (with_reducible assumption) | assumption)
                        obtain ⟨ad247, e247, hx247_0⟩ := Kd.at_int HR0_1.out x4_2 p247 q247
                        obtain rfl : ad246 = ad247 := (by injection e247)
                        replace hx247_0 := (HB.out.cell (World.block_lt_of_cell? w _ hx247_0)).trans hx247_0
                        replace p247 := eq_true p247
                        replace q247 := eq_true q247
                        go_wp2
                        repeat (go_quiet (fail); try go_wp2)
                        go_meet
                        case rel => exact ⟨_, (true), (by first | rfl | (simp; done) | (simp [*]; done)), H', ⟨by have := HJ2.out; have := HK2.out; first | omega | exact Nat.le_refl _⟩, ⟨by (with_reducible repeat (first | refine blk_drewN ?_ _ | refine blk_drew ?_ | refine blk_alloc ?_ _)); exact BK244.out⟩, ⟨by repeat (first | (with_reducible first | exact HB.out | apply below_alloc | apply pw_below_drewN | apply below_drew1 | refine below_set ?_ GE244.out) | exact HB.out)⟩⟩
                      · rw [if_neg c18] at H
                        have c18b0 : decide (32 < (rd l0_1 x4_2)) = false := decide_eq_false c18
                        clear c18
                        have H' := Aside0.mk H
                        clear H
                        have hcz20_0 : wr.cell? ⟨gb244, 0, none⟩ = some (.slice A0_0 l0_0.length c0_0) := (blk_cell BK244.out 0).trans rfl
                        have hcz20_1 : wr.cell? ⟨gb244, 1, none⟩ = some (.slice A0_1 l0_1.length c0_1) := (blk_cell BK244.out 1).trans rfl
                        have hcz20_2 : wr.cell? ⟨gb244, 2, none⟩ = some (.slice A0_2 l0_2.length c0_2) := (blk_cell BK244.out 2).trans rfl
                        have hfz20_0 := blk_frozen BK244.out 0
                        have hfz20_1 := blk_frozen BK244.out 1
                        have hfz20_2 := blk_frozen BK244.out 2
                        have p246 : 0 ≤ (x4_2 : Int) := of_decide_eq_true (by first | (with_reducible assumption) | assumption)
                        have q246 : x4_2 < (l0_1.length : Int) := of_decide_eq_true (by first | (with_reducible assumption) | assumption)
                        obtain ⟨ad246, e246, hx246_0⟩ := Kd.at_int HR0_1.out x4_2 p246 q246
                        cases e246
                        replace hx246_0 := (HB.out.cell (World.block_lt_of_cell? w _ hx246_0)).trans hx246_0
                        replace p246 := eq_true p246
                        replace q246 := eq_true q246
                        have p247 : 0 ≤ (x4_2 : Int) := of_decide_eq_true (by first | (with_reducible assumption) | assumption)
                        have q247 : x4_2 < (l0_1.length : Int) := of_decide_eq_true (by first | (with_reducible assumption) | assumption)
                        obtain ⟨ad247, e247, hx247_0⟩ := Kd.at_int HR0_1.out x4_2 p247 q247
                        obtain rfl : ad246 = ad247 := (by injection e247)
                        replace hx247_0 := (HB.out.cell (World.block_lt_of_cell? w _ hx247_0)).trans hx247_0
                        replace p247 := eq_true p247
                        replace q247 := eq_true q247
                        have p248 : 0 ≤ (x4_2 : Int) := of_decide_eq_true (by first | (with_reducible assumption) | assumption)
                        have q248 : x4_2 < (l0_2.length : Int) := of_decide_eq_true (by first | (with_reducible assumption) | assumption)
                        obtain ⟨ad248, A248_0, c248_0, e248, hx248_0, hl248_0, hi248_0⟩ := at_L1 HR0_2.out x4_2 p248 q248
                        cases e248
                        replace hx248_0 := (HB.out.cell (World.block_lt_of_cell? w _ hx248_0)).trans hx248_0
                        have HR248_0 := Aside0.mk hi248_0
                        have HC248_0 := Aside0.mk hl248_0
                        clear hi248_0 hl248_0
                        replace p248 := eq_true p248
                        replace q248 := eq_true q248
                        go_wp2
                        repeat (go_quiet (fail); try go_wp2)
                        go_meet
                        case rel => exact ⟨_, ((((rd_L1 l0_2 x4_2).length : Int) != (l0_0.length : Int))), (by first | rfl | (simp; done) | (simp [*]; done)), H', ⟨by have := HJ2.out; have := HK2.out; first | omega | exact Nat.le_refl _⟩, ⟨by (with_reducible repeat (first | refine blk_drewN ?_ _ | refine blk_drew ?_ | refine blk_alloc ?_ _)); exact BK244.out⟩, ⟨by repeat (first | (with_reducible first | exact HB.out | apply below_alloc | apply pw_below_drewN | apply below_drew1 | refine below_set ?_ GE244.out) | exact HB.out)⟩⟩
                  · rw [if_neg c15] at H
                    exact absurd H (by simp)
                · rw [if_neg c14] at H
                  exact absurd H (by simp)
              case rest =>
                clear HC12
                try clear c1
                try clear c2
                try clear p2
                try clear q2
                try clear hx2
                try clear c3
                try clear c6
                try clear c7
                try clear c7b0
                try clear c7b1
                try clear c10
                try clear c11
                try clear c11b0
                try clear c14
                try clear c14b0
                try clear c15
                try clear c15b0
                try clear c16
                try clear c16b0
                try clear c18
                try clear c18b0
                try clear hcz13_0
                try clear hcz13_1
                try clear hcz13_2
                try clear hcz17_0
                try clear hcz17_1
                try clear hcz17_2
                try clear hcz19_0
                try clear hcz19_1
                try clear hcz19_2
                try clear hcz20_0
                try clear hcz20_1
                try clear hcz20_2
                try clear hcz5_0
                try clear hcz5_1
                try clear hcz5_2
                try clear hcz8_0
                try clear hcz8_1
                try clear hcz8_2
                try clear hcz9_0
                try clear hcz9_1
                try clear hcz9_2
                try clear hfz13_0
                try clear hfz13_1
                try clear hfz13_2
                try clear hfz17_0
                try clear hfz17_1
                try clear hfz17_2
                try clear hfz19_0
                try clear hfz19_1
                try clear hfz19_2
                try clear hfz20_0
                try clear hfz20_1
                try clear hfz20_2
                try clear hfz5_0
                try clear hfz5_1
                try clear hfz5_2
                try clear hfz8_0
                try clear hfz8_1
                try clear hfz8_2
                try clear hfz9_0
                try clear hfz9_1
                try clear hfz9_2
                try clear hx246_0
                try clear hx247_0
                try clear hx248_0
                try clear p2
                try clear p246
                try clear p247
                try clear p248
                try clear q246
                try clear q247
                try clear q248
                obtain ⟨kq, x58_11, rfl, HA, HJ11, BK244, HB⟩ := hcut
                cases kq with
                | zero => exact absurd HA.out (by simp [windbreakref15_Right.j2])
                | succ kj11 =>
                  have H := HA.out
                  clear HA
                  simp only [windbreakref15_Right.j2] at H
                  by_cases c21 : x58_11 = true
                  · subst c21
                    have H1 : (some false) = some r := by rw [if_pos rfl] at H; exact H
                    clear H
                    have H := H1
                    clear H1
                    obtain rfl := Option.some.inj H
                    go_wp2
                    repeat (go_quiet (fail); try go_wp2)
                    go_ret
                    exact ⟨by first | rfl | (simp [errW_none, errW_some] <;> rfl) | (simp [*, errW_none, errW_some] <;> rfl), by repeat (first | (with_reducible first | exact HB.out | apply below_alloc | apply pw_below_drewN | apply below_drew1 | refine below_set ?_ GE244.out) | exact HB.out)⟩
                  · replace c21 := Bool.eq_false_iff.mpr c21
                    subst c21
                    have H1 : (windbreakref15_Right.l1 kj11 x4_2 0 l0_0 l0_1 l0_2) = some r := by rw [if_neg (show ¬ (false = true) by decide)] at H; exact H
                    clear H
                    have H := H1
                    clear H1
                    have H' := Aside0.mk H
                    clear H
                    go_wp2
                    repeat (go_quiet (fail); try go_wp2)
                    go_loopg [5] kj11 (fun kq v5 w' => ∃ (x5_4 : Int), v5 = .int .i64 x5_4 ∧ Aside0 (windbreakref15_Right.l1 kq x4_2 x5_4 l0_0 l0_1 l0_2 = some r) ∧ Aside0 (kq ≤ kj11) ∧ Aside0 (w'.heap[gb244]? = some (.cells #[(.slice A0_0 l0_0.length c0_0), (.slice A0_1 l0_1.length c0_1), (.slice A0_2 l0_2.length c0_2)] 43 (0, 0))) ∧ Aside0 (Below w.heap.size w w'))
                    case atStart => exact ⟨(0), (by first | rfl | (simp; done) | (simp [*]; done)), H', ⟨Nat.le_refl _⟩, ⟨by (with_reducible repeat (first | refine blk_drewN ?_ _ | refine blk_drew ?_ | refine blk_alloc ?_ _)); exact BK244.out⟩, ⟨by repeat (first | (with_reducible first | exact HB.out | apply below_alloc | apply pw_below_drewN | apply below_drew1 | refine below_set ?_ GE244.out) | exact HB.out)⟩⟩
                    case round =>
                      clear H'
                      try clear c1
                      try clear c2
                      try clear p2
                      try clear q2
                      try clear hx2
                      try clear c3
                      try clear c6
                      try clear c7
                      try clear c7b0
                      try clear c7b1
                      try clear c10
                      try clear c11
                      try clear c11b0
                      try clear c14
                      try clear c14b0
                      try clear c15
                      try clear c15b0
                      try clear c16
                      try clear c16b0
                      try clear c18
                      try clear c18b0
                      try clear c21
                      try clear hcz13_0
                      try clear hcz13_1
                      try clear hcz13_2
                      try clear hcz17_0
                      try clear hcz17_1
                      try clear hcz17_2
                      try clear hcz19_0
                      try clear hcz19_1
                      try clear hcz19_2
                      try clear hcz20_0
                      try clear hcz20_1
                      try clear hcz20_2
                      try clear hcz5_0
                      try clear hcz5_1
                      try clear hcz5_2
                      try clear hcz8_0
                      try clear hcz8_1
                      try clear hcz8_2
                      try clear hcz9_0
                      try clear hcz9_1
                      try clear hcz9_2
                      try clear hfz13_0
                      try clear hfz13_1
                      try clear hfz13_2
                      try clear hfz17_0
                      try clear hfz17_1
                      try clear hfz17_2
                      try clear hfz19_0
                      try clear hfz19_1
                      try clear hfz19_2
                      try clear hfz20_0
                      try clear hfz20_1
                      try clear hfz20_2
                      try clear hfz5_0
                      try clear hfz5_1
                      try clear hfz5_2
                      try clear hfz8_0
                      try clear hfz8_1
                      try clear hfz8_2
                      try clear hfz9_0
                      try clear hfz9_1
                      try clear hfz9_2
                      try clear hx246_0
                      try clear hx247_0
                      try clear hx248_0
                      try clear p2
                      try clear p246
                      try clear p247
                      try clear p248
                      try clear q2
                      try clear q246
                      try clear q247
                      try clear q248
                      obtain ⟨x5_4, rfl, HA, HK4, BK244, HB⟩ := hrel
                      cases gk with
                      | zero => exact absurd HA.out (by simp [windbreakref15_Right.l1])
                      | succ k4 =>
                        have H := HA.out
                        clear HA
                        simp only [windbreakref15_Right.l1] at H
                        by_cases c22 : x5_4 < (l0_0.length : Int)
                        · rw [if_pos c22] at H
                          have c22b0 : decide (x5_4 < (l0_0.length : Int)) = true := decide_eq_true c22
                          clear c22
                          by_cases c23 : 0 ≤ x4_2
                          · rw [if_pos c23] at H
                            have c23b0 : decide (0 ≤ x4_2) = true := decide_eq_true c23
                            clear c23
                            by_cases c24 : x4_2 < (l0_2.length : Int)
                            · rw [if_pos c24] at H
                              have c24b0 : decide (x4_2 < (l0_2.length : Int)) = true := decide_eq_true c24
                              clear c24
                              by_cases c25 : 0 ≤ x5_4
                              · rw [if_pos c25] at H
                                have c25b0 : decide (0 ≤ x5_4) = true := decide_eq_true c25
                                clear c25
                                by_cases c26 : x5_4 < ((rd_L1 l0_2 x4_2).length : Int)
                                · rw [if_pos c26] at H
                                  have c26b0 : decide (x5_4 < ((rd_L1 l0_2 x4_2).length : Int)) = true := decide_eq_true c26
                                  clear c26
                                  by_cases c27 : (rd (rd_L1 l0_2 x4_2) x5_4) < 0
                                  · rw [if_pos c27] at H
                                    have c27b0 : decide ((rd (rd_L1 l0_2 x4_2) x5_4) < 0) = true := decide_eq_true c27
                                    clear c27
                                    obtain rfl := Option.some.inj H
                                    have hcz28_0 : wr.cell? ⟨gb244, 0, none⟩ = some (.slice A0_0 l0_0.length c0_0) := (blk_cell BK244.out 0).trans rfl
                                    have hcz28_1 : wr.cell? ⟨gb244, 1, none⟩ = some (.slice A0_1 l0_1.length c0_1) := (blk_cell BK244.out 1).trans rfl
                                    have hcz28_2 : wr.cell? ⟨gb244, 2, none⟩ = some (.slice A0_2 l0_2.length c0_2) := (blk_cell BK244.out 2).trans rfl
                                    have hfz28_0 := blk_frozen BK244.out 0
                                    have hfz28_1 := blk_frozen BK244.out 1
                                    have hfz28_2 := blk_frozen BK244.out 2
                                    have p249 : 0 ≤ (x4_2 : Int) := of_decide_eq_true (by first | (with_reducible assumption) | assumption)
                                    have q249 : x4_2 < (l0_2.length : Int) := of_decide_eq_true (by first | (with_reducible assumption) | assumption)
                                    obtain ⟨ad249, A249_0, c249_0, e249, hx249_0, hl249_0, hi249_0⟩ := at_L1 HR0_2.out x4_2 p249 q249
                                    cases e249
                                    replace hx249_0 := (HB.out.cell (World.block_lt_of_cell? w _ hx249_0)).trans hx249_0
                                    have HR249_0 := Aside0.mk hi249_0
                                    have HC249_0 := Aside0.mk hl249_0
                                    clear hi249_0 hl249_0
                                    replace p249 := eq_true p249
                                    replace q249 := eq_true q249
                                    have p250 : 0 ≤ (x5_4 : Int) := of_decide_eq_true (by first | (with_reducible assumption) | assumption)
                                    have q250 : x5_4 < ((rd_L1 l0_2 x4_2).length : Int) := of_decide_eq_true (by first | (with_reducible assumption) | assumption)
                                    obtain ⟨ad250, e250, hx250_0⟩ := Kd.at_int HR249_0.out x5_4 p250 q250
                                    cases e250
                                    replace hx250_0 := (HB.out.cell (World.block_lt_of_cell? w _ hx250_0)).trans hx250_0
                                    replace p250 := eq_true p250
                                    replace q250 := eq_true q250
                                    go_wp2
                                    repeat (go_quiet (fail); try go_wp2)
                                    go_ret
                                    exact ⟨by first | rfl | (simp [errW_none, errW_some] <;> rfl) | (simp [*, errW_none, errW_some] <;> rfl), by repeat (first | (with_reducible first | exact HB.out | apply below_alloc | apply pw_below_drewN | apply below_drew1 | refine below_set ?_ GE244.out) | exact HB.out)⟩
                                  · rw [if_neg c27] at H
                                    have c27b0 : decide ((rd (rd_L1 l0_2 x4_2) x5_4) < 0) = false := decide_eq_false c27
                                    clear c27
                                    by_cases c29 : x4_2 < (l0_1.length : Int)
                                    · rw [if_pos c29] at H
                                      have c29b0 : decide (x4_2 < (l0_1.length : Int)) = true := decide_eq_true c29
                                      clear c29
                                      by_cases c30 : (rd (rd_L1 l0_2 x4_2) x5_4) ≥ (rd l0_1 x4_2)
                                      · rw [if_pos c30] at H
                                        have c30b0 : decide ((rd l0_1 x4_2) ≤ (rd (rd_L1 l0_2 x4_2) x5_4)) = true := decide_eq_true c30
                                        clear c30
                                        obtain rfl := Option.some.inj H
                                        have hcz31_0 : wr.cell? ⟨gb244, 0, none⟩ = some (.slice A0_0 l0_0.length c0_0) := (blk_cell BK244.out 0).trans rfl
                                        have hcz31_1 : wr.cell? ⟨gb244, 1, none⟩ = some (.slice A0_1 l0_1.length c0_1) := (blk_cell BK244.out 1).trans rfl
                                        have hcz31_2 : wr.cell? ⟨gb244, 2, none⟩ = some (.slice A0_2 l0_2.length c0_2) := (blk_cell BK244.out 2).trans rfl
                                        have hfz31_0 := blk_frozen BK244.out 0
                                        have hfz31_1 := blk_frozen BK244.out 1
                                        have hfz31_2 := blk_frozen BK244.out 2
                                        have p249 : 0 ≤ (x4_2 : Int) := of_decide_eq_true (by first | (with_reducible assumption) | assumption)
                                        have q249 : x4_2 < (l0_2.length : Int) := of_decide_eq_true (by first | (with_reducible assumption) | assumption)
                                        obtain ⟨ad249, A249_0, c249_0, e249, hx249_0, hl249_0, hi249_0⟩ := at_L1 HR0_2.out x4_2 p249 q249
                                        cases e249
                                        replace hx249_0 := (HB.out.cell (World.block_lt_of_cell? w _ hx249_0)).trans hx249_0
                                        have HR249_0 := Aside0.mk hi249_0
                                        have HC249_0 := Aside0.mk hl249_0
                                        clear hi249_0 hl249_0
                                        replace p249 := eq_true p249
                                        replace q249 := eq_true q249
                                        have p250 : 0 ≤ (x5_4 : Int) := of_decide_eq_true (by first | (with_reducible assumption) | assumption)
                                        have q250 : x5_4 < ((rd_L1 l0_2 x4_2).length : Int) := of_decide_eq_true (by first | (with_reducible assumption) | assumption)
                                        obtain ⟨ad250, e250, hx250_0⟩ := Kd.at_int HR249_0.out x5_4 p250 q250
                                        cases e250
                                        replace hx250_0 := (HB.out.cell (World.block_lt_of_cell? w _ hx250_0)).trans hx250_0
                                        replace p250 := eq_true p250
                                        replace q250 := eq_true q250
                                        have p251 : 0 ≤ (x4_2 : Int) := of_decide_eq_true (by first | (with_reducible assumption) | assumption)
                                        have q251 : x4_2 < (l0_2.length : Int) := of_decide_eq_true (by first | (with_reducible assumption) | assumption)
                                        obtain ⟨ad251, A251_0, c251_0, e251, hx251_0, hl251_0, hi251_0⟩ := at_L1 HR0_2.out x4_2 p251 q251
                                        obtain rfl : ad249 = ad251 := (by injection e251)
                                        replace hx251_0 := (HB.out.cell (World.block_lt_of_cell? w _ hx251_0)).trans hx251_0
                                        have HR251_0 := Aside0.mk hi251_0
                                        have HC251_0 := Aside0.mk hl251_0
                                        clear hi251_0 hl251_0
                                        replace p251 := eq_true p251
                                        replace q251 := eq_true q251
                                        have ea_ := Option.some.inj (hx249_0.symm.trans hx251_0)
                                        injection ea_ with ea_ en_ ec_
                                        subst ea_
                                        subst ec_
                                        clear en_
                                        have p252 : 0 ≤ (x5_4 : Int) := of_decide_eq_true (by first | (with_reducible assumption) | assumption)
                                        have q252 : x5_4 < ((rd_L1 l0_2 x4_2).length : Int) := of_decide_eq_true (by first | (with_reducible assumption) | assumption)
                                        obtain ⟨ad252, e252, hx252_0⟩ := Kd.at_int HR251_0.out x5_4 p252 q252
                                        cases e252
                                        replace hx252_0 := (HB.out.cell (World.block_lt_of_cell? w _ hx252_0)).trans hx252_0
                                        replace p252 := eq_true p252
                                        replace q252 := eq_true q252
                                        have p253 : 0 ≤ (x4_2 : Int) := of_decide_eq_true (by first | (with_reducible assumption) | assumption)
                                        have q253 : x4_2 < (l0_1.length : Int) := of_decide_eq_true (by first | (with_reducible assumption) | assumption)
                                        obtain ⟨ad253, e253, hx253_0⟩ := Kd.at_int HR0_1.out x4_2 p253 q253
                                        cases e253
                                        replace hx253_0 := (HB.out.cell (World.block_lt_of_cell? w _ hx253_0)).trans hx253_0
                                        replace p253 := eq_true p253
                                        replace q253 := eq_true q253
                                        go_wp2
                                        repeat (go_quiet (fail); try go_wp2)
                                        go_ret
                                        exact ⟨by first | rfl | (simp [errW_none, errW_some] <;> rfl) | (simp [*, errW_none, errW_some] <;> rfl), by repeat (first | (with_reducible first | exact HB.out | apply below_alloc | apply pw_below_drewN | apply below_drew1 | refine below_set ?_ GE244.out) | exact HB.out)⟩
                                      · rw [if_neg c30] at H
                                        have c30b0 : decide ((rd l0_1 x4_2) ≤ (rd (rd_L1 l0_2 x4_2) x5_4)) = false := decide_eq_false c30
                                        clear c30
                                        have H' := Aside0.mk H
                                        clear H
                                        have hcz32_0 : wr.cell? ⟨gb244, 0, none⟩ = some (.slice A0_0 l0_0.length c0_0) := (blk_cell BK244.out 0).trans rfl
                                        have hcz32_1 : wr.cell? ⟨gb244, 1, none⟩ = some (.slice A0_1 l0_1.length c0_1) := (blk_cell BK244.out 1).trans rfl
                                        have hcz32_2 : wr.cell? ⟨gb244, 2, none⟩ = some (.slice A0_2 l0_2.length c0_2) := (blk_cell BK244.out 2).trans rfl
                                        have hfz32_0 := blk_frozen BK244.out 0
                                        have hfz32_1 := blk_frozen BK244.out 1
                                        have hfz32_2 := blk_frozen BK244.out 2
                                        have p249 : 0 ≤ (x4_2 : Int) := of_decide_eq_true (by first | (with_reducible assumption) | assumption)
                                        have q249 : x4_2 < (l0_2.length : Int) := of_decide_eq_true (by first | (with_reducible assumption) | assumption)
                                        obtain ⟨ad249, A249_0, c249_0, e249, hx249_0, hl249_0, hi249_0⟩ := at_L1 HR0_2.out x4_2 p249 q249
                                        cases e249
                                        replace hx249_0 := (HB.out.cell (World.block_lt_of_cell? w _ hx249_0)).trans hx249_0
                                        have HR249_0 := Aside0.mk hi249_0
                                        have HC249_0 := Aside0.mk hl249_0
                                        clear hi249_0 hl249_0
                                        replace p249 := eq_true p249
                                        replace q249 := eq_true q249
                                        have p250 : 0 ≤ (x5_4 : Int) := of_decide_eq_true (by first | (with_reducible assumption) | assumption)
                                        have q250 : x5_4 < ((rd_L1 l0_2 x4_2).length : Int) := of_decide_eq_true (by first | (with_reducible assumption) | assumption)
                                        obtain ⟨ad250, e250, hx250_0⟩ := Kd.at_int HR249_0.out x5_4 p250 q250
                                        cases e250
                                        replace hx250_0 := (HB.out.cell (World.block_lt_of_cell? w _ hx250_0)).trans hx250_0
                                        replace p250 := eq_true p250
                                        replace q250 := eq_true q250
                                        have p251 : 0 ≤ (x4_2 : Int) := of_decide_eq_true (by first | (with_reducible assumption) | assumption)
                                        have q251 : x4_2 < (l0_2.length : Int) := of_decide_eq_true (by first | (with_reducible assumption) | assumption)
                                        obtain ⟨ad251, A251_0, c251_0, e251, hx251_0, hl251_0, hi251_0⟩ := at_L1 HR0_2.out x4_2 p251 q251
                                        obtain rfl : ad249 = ad251 := (by injection e251)
                                        replace hx251_0 := (HB.out.cell (World.block_lt_of_cell? w _ hx251_0)).trans hx251_0
                                        have HR251_0 := Aside0.mk hi251_0
                                        have HC251_0 := Aside0.mk hl251_0
                                        clear hi251_0 hl251_0
                                        replace p251 := eq_true p251
                                        replace q251 := eq_true q251
                                        have ea_ := Option.some.inj (hx249_0.symm.trans hx251_0)
                                        injection ea_ with ea_ en_ ec_
                                        subst ea_
                                        subst ec_
                                        clear en_
                                        have p252 : 0 ≤ (x5_4 : Int) := of_decide_eq_true (by first | (with_reducible assumption) | assumption)
                                        have q252 : x5_4 < ((rd_L1 l0_2 x4_2).length : Int) := of_decide_eq_true (by first | (with_reducible assumption) | assumption)
                                        obtain ⟨ad252, e252, hx252_0⟩ := Kd.at_int HR251_0.out x5_4 p252 q252
                                        cases e252
                                        replace hx252_0 := (HB.out.cell (World.block_lt_of_cell? w _ hx252_0)).trans hx252_0
                                        replace p252 := eq_true p252
                                        replace q252 := eq_true q252
                                        have p253 : 0 ≤ (x4_2 : Int) := of_decide_eq_true (by first | (with_reducible assumption) | assumption)
                                        have q253 : x4_2 < (l0_1.length : Int) := of_decide_eq_true (by first | (with_reducible assumption) | assumption)
                                        obtain ⟨ad253, e253, hx253_0⟩ := Kd.at_int HR0_1.out x4_2 p253 q253
                                        cases e253
                                        replace hx253_0 := (HB.out.cell (World.block_lt_of_cell? w _ hx253_0)).trans hx253_0
                                        replace p253 := eq_true p253
                                        replace q253 := eq_true q253
                                        go_wp2
                                        repeat (go_quiet (fail); try go_wp2)
                                        go_roundg k4
                                        case measure => have := HJ2.out; have := HK2.out; have := HJ11.out; have := HK4.out; omega
                                        case rel => exact ⟨(wrap64 (x5_4 + 1)), (by first | rfl | (simp; done) | (simp [*]; done)), H', ⟨by have := HJ2.out; have := HK2.out; have := HJ11.out; have := HK4.out; omega⟩, ⟨by (with_reducible repeat (first | refine blk_drewN ?_ _ | refine blk_drew ?_ | refine blk_alloc ?_ _)); exact BK244.out⟩, ⟨by repeat (first | (with_reducible first | exact HB.out | apply below_alloc | apply pw_below_drewN | apply below_drew1 | refine below_set ?_ GE244.out) | exact HB.out)⟩⟩
                                    · rw [if_neg c29] at H
                                      exact absurd H (by simp)
                                · rw [if_neg c26] at H
                                  exact absurd H (by simp)
                              · rw [if_neg c25] at H
                                exact absurd H (by simp)
                            · rw [if_neg c24] at H
                              exact absurd H (by simp)
                          · rw [if_neg c23] at H
                            exact absurd H (by simp)
                        · rw [if_neg c22] at H
                          have c22b0 : decide (x5_4 < (l0_0.length : Int)) = false := decide_eq_false c22
                          clear c22
                          have H' := Aside0.mk H
                          clear H
                          have hcz33_0 : wr.cell? ⟨gb244, 0, none⟩ = some (.slice A0_0 l0_0.length c0_0) := (blk_cell BK244.out 0).trans rfl
                          have hcz33_1 : wr.cell? ⟨gb244, 1, none⟩ = some (.slice A0_1 l0_1.length c0_1) := (blk_cell BK244.out 1).trans rfl
                          have hcz33_2 : wr.cell? ⟨gb244, 2, none⟩ = some (.slice A0_2 l0_2.length c0_2) := (blk_cell BK244.out 2).trans rfl
                          have hfz33_0 := blk_frozen BK244.out 0
                          have hfz33_1 := blk_frozen BK244.out 1
                          have hfz33_2 := blk_frozen BK244.out 2
                          go_wp2
                          repeat (go_quiet (fail); try go_wp2)
                          go_roundg k4
                          case measure => have := HJ2.out; have := HK2.out; have := HJ11.out; have := HK4.out; omega
                          case rel => exact ⟨(wrap64 (x4_2 + 1)), (by first | rfl | (simp; done) | (simp [*]; done)), H', ⟨by have := HJ2.out; have := HK2.out; have := HJ11.out; have := HK4.out; omega⟩, ⟨by (with_reducible repeat (first | refine blk_drewN ?_ _ | refine blk_drew ?_ | refine blk_alloc ?_ _)); exact BK244.out⟩, ⟨by repeat (first | (with_reducible first | exact HB.out | apply below_alloc | apply pw_below_drewN | apply below_drew1 | refine below_set ?_ GE244.out) | exact HB.out)⟩⟩
            · rw [if_neg c11] at H
              have c11b0 : decide (x4_2 < (l0_2.length : Int)) = false := decide_eq_false c11
              clear c11
              obtain rfl := Option.some.inj H
              have hcz34_0 : wr.cell? ⟨gb244, 0, none⟩ = some (.slice A0_0 l0_0.length c0_0) := (blk_cell BK244.out 0).trans rfl
              have hcz34_1 : wr.cell? ⟨gb244, 1, none⟩ = some (.slice A0_1 l0_1.length c0_1) := (blk_cell BK244.out 1).trans rfl
              have hcz34_2 : wr.cell? ⟨gb244, 2, none⟩ = some (.slice A0_2 l0_2.length c0_2) := (blk_cell BK244.out 2).trans rfl
              have hfz34_0 := blk_frozen BK244.out 0
              have hfz34_1 := blk_frozen BK244.out 1
              have hfz34_2 := blk_frozen BK244.out 2
              go_wp2
              repeat (go_quiet (fail); try go_wp2)
              go_ret
              exact ⟨by first | rfl | (simp [errW_none, errW_some] <;> rfl) | (simp [*, errW_none, errW_some] <;> rfl), by repeat (first | (with_reducible first | exact HB.out | apply below_alloc | apply pw_below_drewN | apply below_drew1 | refine below_set ?_ GE244.out) | exact HB.out)⟩



end Go.Proofs.Ytdlkcohfgfnkbaa.DFns
