/- slices.IndexFunc and ContainsFunc over []int, at whatever predicate. -/
import Derived.Test.YtfimakplmkbbjaaPSessionScriptsx0
import Derived.Outline
namespace Go.Proofs.Ytfimakplmkbbjaa.Ix
open Go.RowKit Go.Proofs.YtfimakplmkbbjaaW.PrintWords Go.Proofs.YtfimakplmkbbjaaW.PrintLast Go.Proofs.YtfimakplmkbbjaaW.PrintMore
set_option linter.unusedSimpArgs false
set_option linter.unusedVariables false

/-- A predicate on ints: a function value that only reads. -/
structure Pred (f : Nat) (caps : Array Value) (w : World) (p : Int → Bool) : Prop where
  enter : ∀ args w, (callFunc f args).run Try.prog w = .ok (.enter f args) w
  calls : ∀ (x : Int), Calls Try.prog f (#[.int .i64 x] ++ caps) w fun e w' => e = .returned (.bool (p x)) ∧ w = w'

set_option maxHeartbeats 400000 in
theorem index_calls (f : Nat) (caps : Array Value) (p : Int → Bool) (A : Option Addr) (c : Nat) (l : List Int) (w : World) (hr : Kd.C (Kd.int .i64) w A l.length l) (hl : l.length ≤ 140737488351232) (hp : Pred f caps w p) :
    Calls Try.prog 31 #[.slice A l.length c, .func (.func f) #[] caps] w fun e w' => ∃ i : Int, e = .returned (.int .i64 i) ∧ (decide (0 ≤ i) = l.any p) ∧ w = w' := by
  have HR := Aside0.mk hr
  have HP := Aside0.mk hp
  clear hr hp
  go_enter Try.func31, Try.ntmps31
  go_wp2_with fail
  go_loop [5, 8] (fun v5 v8 => ∃ i : Nat, i ≤ l.length ∧ v8 = .int .i64 (i : Int) ∧ Aside0 ((l.take i).any p = false)) (fun _ v8 => l.length - (intOf v8).toNat)
  case atStart => exact ⟨0, by omega, rfl, ⟨rfl⟩⟩
  case round =>
    obtain ⟨i, hi, rfl, HT⟩ := hrel
    by_cases hlt : (i : Int) < (l.length : Int)
    · obtain ⟨ad, rfl, hc⟩ := Kd.at_int HR.out (i : Int) (by omega) hlt
      rw [Int.toNat_natCast] at hc
      have hen := HP.out.enter
      have hd : l.take (i + 1) = l.take i ++ [rd l (i : Int)] := by
        rw [List.take_succ_eq_append_getElem (by omega)]
        congr 2
        simp [rd, show i < l.length by omega]
      obtain ⟨x, hx⟩ : ∃ x, x = rd l (i : Int) := ⟨_, rfl⟩
      rw [← hx] at hc hd
      have HD := Aside0.mk hd
      clear hx hd
      go_wp2_with fail
      refine (HP.out.calls x).mono ?_
      rintro e w1 ⟨rfl, rfl⟩
      cases hpx : p x with
      | true =>
        have HX := Aside0.mk hpx
        clear hpx hen
        go_wp2_with fail
        go_ret
        exact ⟨(i : Int), rfl, by
          rw [decide_eq_true (by omega)]
          symm
          rw [List.any_eq_true]
          refine ⟨x, ?_, HX.out⟩
          have : x ∈ l.take (i + 1) := by rw [HD.out]; simp
          exact List.mem_of_mem_take this, rfl⟩
      | false =>
        have HX := Aside0.mk hpx
        clear hpx hen
        go_wp2_with fail
        go_round
        case rel => exact ⟨i + 1, by omega, by go_num, ⟨by rw [HD.out, List.any_append, HT.out]; simp [HX.out]⟩⟩
        case measure => simp [intOf]; omega
    · have hie : i = l.length := by omega
      have HE := Aside0.mk hie
      clear hie
      go_wp2_with fail
      go_ret
      exact ⟨-1, rfl, by have h := HT.out; rw [HE.out, List.take_length] at h; rw [h]; rfl, rfl⟩
set_option maxHeartbeats 400000 in
theorem contains_calls (f : Nat) (caps : Array Value) (p : Int → Bool) (A : Option Addr) (c : Nat) (l : List Int) (w : World) (hr : Kd.C (Kd.int .i64) w A l.length l) (hl : l.length ≤ 140737488351232) (hp : Pred f caps w p) :
    Calls Try.prog 19 #[.slice A l.length c, .func (.func f) #[] caps] w fun e w' => e = .returned (.bool (l.any p)) ∧ w = w' := by
  have HR := Aside0.mk hr
  have HP := Aside0.mk hp
  clear hr hp
  go_enter Try.func19, Try.ntmps19
  go_wp2_with fail
  refine (index_calls f caps p A c l _ HR.out hl HP.out).mono ?_
  rintro e w1 ⟨i, rfl, hi, rfl⟩
  have HI := Aside0.mk hi
  clear hi
  go_wp2_with fail
  go_ret
  exact ⟨by rw [← HI.out]; rfl, rfl⟩
end Go.Proofs.Ytfimakplmkbbjaa.Ix
