/- Frames: frame.right: may a frame be? -/
import Derived.Test.YtekakngojhnleaaWlk2
import Derived.Test.YtekakngojhnleaaFp
namespace Go.Proofs.Ytekakngojhnleaa.Rt
set_option linter.unusedSimpArgs false
set_option linter.unusedVariables false
open Go.RowKit Go.Proofs.Ytekakngojhnleaa.Fns Go.Proofs.YtekakngojhnleaaW.PrintWords Go.Proofs.YtekakngojhnleaaW.PrintLast Go.Proofs.YtekakngojhnleaaW.PrintMore

def within (n : Int) : Bool := decide (0 ≤ n ∧ n ≤ 1073741824)
theorem within_calls (n : Int) (w : World) : Calls Try.prog 87 #[.int .i64 n] w fun e w' => e = .returned (.bool (within n)) ∧ w = w' := by
  by_cases h0 : 0 ≤ n
  · by_cases h1 : n ≤ 1073741824
    · have hw : within n = true := by simp [within, h0, h1]
      have H := Aside0.mk hw
      clear hw
      have h0' : decide (n ≥ 0) = true := by simp [h0]
      go_enter Try.func87, Try.ntmps87
      go_wp2
      go_ret
      exact ⟨by rw [H.out]; rfl, rfl⟩
    · have hw : within n = false := by simp [within, h1]
      have H := Aside0.mk hw
      clear hw
      go_enter Try.func87, Try.ntmps87
      go_wp2
      go_ret
      exact ⟨by rw [H.out]; rfl, rfl⟩
  · have hw : within n = false := by simp [within, h0]
    have H := Aside0.mk hw
    clear hw
    go_enter Try.func87, Try.ntmps87
    go_wp2
    go_ret
    exact ⟨by rw [H.out]; rfl, rfl⟩

def frameV (d : Bool) (s a : Int) (A : Option Addr) (n c : Nat) : Value := .agg #[.bool d, .int .i64 s, .int .i64 a, .slice A n c]
theorem within_is (n : Int) (b : Bool) (w : World) (h : within n = b) : Calls Try.prog 87 #[.int .i64 n] w fun e w' => e = .returned (.bool b) ∧ w = w' := by
  subst h
  exact within_calls n w
def rightB (d : Bool) (s a : Int) (n : Nat) : Bool := within s && (within a && (decide ((n : Int) ≤ 1048576) && (d || ((s == 0) && ((n : Int) == 0)))))
set_option maxRecDepth 100000 in
set_option maxHeartbeats 1000000 in
theorem right_is (d : Bool) (s a : Int) (A : Option Addr) (n c : Nat) (w : World) (r : Bool) (h : rightB d s a n = r) : Calls Try.prog 65 #[.agg #[.bool d, .int .i64 s, .int .i64 a, .slice A n c]] w fun e w' => e = .returned (.bool r) ∧ w' = w.alloc (.cells #[.bool d, .int .i64 s, .int .i64 a, .slice A n c] 53) := by
  obtain ⟨b1, h1⟩ : ∃ b, within s = b := ⟨_, rfl⟩
  obtain ⟨b2, h2⟩ : ∃ b, within a = b := ⟨_, rfl⟩
  obtain ⟨b3, h3⟩ : ∃ b, decide ((n : Int) ≤ 1048576) = b := ⟨_, rfl⟩
  obtain ⟨b4, h4⟩ : ∃ b, (s == 0) = b := ⟨_, rfl⟩
  obtain ⟨b5, h5⟩ : ∃ b, ((n : Int) == 0) = b := ⟨_, rfl⟩
  unfold rightB at h
  rw [h1, h2, h3, h4, h5] at h
  have H1 := Aside0.mk h1
  have H2 := Aside0.mk h2
  clear h1 h2
  cases b1
  · obtain rfl := h
    clear h3 h4 h5
    go_enter Try.func65, Try.ntmps65
    go_wp2_with (go_at_call 87; refine (within_is s false _ H1.out).mono ?_; rintro e w1 ⟨rfl, rfl⟩)
    go_ret
    exact ⟨rfl, rfl⟩
  · cases b2
    · obtain rfl := h
      clear h3 h4 h5
      go_enter Try.func65, Try.ntmps65
      go_wp2_with (go_at_call 87; first | (with_reducible refine (within_is s true _ H1.out).mono ?_; rintro e w1 ⟨rfl, rfl⟩) | (refine (within_is a false _ H2.out).mono ?_; rintro e w1 ⟨rfl, rfl⟩))
      go_ret
      exact ⟨rfl, rfl⟩
    · cases b3
      · obtain rfl := h
        clear h4 h5
        go_enter Try.func65, Try.ntmps65
        go_wp2_with (go_at_call 87; first | (with_reducible refine (within_is s true _ H1.out).mono ?_; rintro e w1 ⟨rfl, rfl⟩) | (refine (within_is a true _ H2.out).mono ?_; rintro e w1 ⟨rfl, rfl⟩))
        go_ret
        exact ⟨rfl, rfl⟩
      · cases d
        · cases b4
          · obtain rfl := h
            clear h5
            go_enter Try.func65, Try.ntmps65
            go_wp2_with (go_at_call 87; first | (with_reducible refine (within_is s true _ H1.out).mono ?_; rintro e w1 ⟨rfl, rfl⟩) | (refine (within_is a true _ H2.out).mono ?_; rintro e w1 ⟨rfl, rfl⟩))
            go_ret
            exact ⟨rfl, rfl⟩
          · cases b5
            · obtain rfl := h
              go_enter Try.func65, Try.ntmps65
              go_wp2_with (go_at_call 87; first | (with_reducible refine (within_is s true _ H1.out).mono ?_; rintro e w1 ⟨rfl, rfl⟩) | (refine (within_is a true _ H2.out).mono ?_; rintro e w1 ⟨rfl, rfl⟩))
              go_ret
              exact ⟨rfl, rfl⟩
            · obtain rfl := h
              go_enter Try.func65, Try.ntmps65
              go_wp2_with (go_at_call 87; first | (with_reducible refine (within_is s true _ H1.out).mono ?_; rintro e w1 ⟨rfl, rfl⟩) | (refine (within_is a true _ H2.out).mono ?_; rintro e w1 ⟨rfl, rfl⟩))
              go_ret
              exact ⟨rfl, rfl⟩
        · obtain rfl := h
          clear h4 h5
          go_enter Try.func65, Try.ntmps65
          go_wp2_with (go_at_call 87; first | (with_reducible refine (within_is s true _ H1.out).mono ?_; rintro e w1 ⟨rfl, rfl⟩) | (refine (within_is a true _ H2.out).mono ?_; rintro e w1 ⟨rfl, rfl⟩))
          go_ret
          exact ⟨rfl, rfl⟩
end Go.Proofs.Ytekakngojhnleaa.Rt
