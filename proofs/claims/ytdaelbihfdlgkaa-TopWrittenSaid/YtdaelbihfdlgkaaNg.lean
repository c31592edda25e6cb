/- A number copied. -/
import Derived.Test.YtdaelbihfdlgkaaNo
import Derived.Deep.RegionWith
import Derived.Outline
import Derived.Lib.SliceRun
namespace Go.Proofs.Ytdaelbihfdlgkaa.Ng
open Go.RowKit Go.Proofs.Ytdaelbihfdlgkaa.Na Go.Proofs.Ytdaelbihfdlgkaa.Nv Go.Proofs.Ytdaelbihfdlgkaa.Ns Go.Proofs.Ytdaelbihfdlgkaa.Nt Go.Proofs.Ytdaelbihfdlgkaa.Np Go.Proofs.Ytdaelbihfdlgkaa.Nq Go.Proofs.Ytdaelbihfdlgkaa.No Go.Proofs.Ytdaelbihfdlgkaa.Fns Go.Proofs.YtdaelbihfdlgkaaW.PrintWords Go.Proofs.YtdaelbihfdlgkaaW.PrintLast Go.Proofs.YtdaelbihfdlgkaaW.PrintMore
set_option linter.unusedVariables false
set_option linter.unusedSimpArgs false
theorem R_empty {α : Type} (d : Kd α) (e : Nat) (w : World) (base : Nat) (hb : base ≤ w.heap.size) : d.R e (w.alloc (.cells #[] e)) base (fun _ => True) (.slice (some ⟨w.heap.size, 0, none⟩) 0 0) ([] : List α) := by
  refine ⟨fun _ _ => trivial, [], ?_, Reps.none _ _⟩
  have h := World.ownsRow_lit (base := base) (e := e) (size := d.sz) w #[] 0 hb (by simp [maxLen]) (by simp)
  simpa using h
set_option maxRecDepth 100000 in
set_option maxHeartbeats 400000 in
theorem clone_calls (A : Option Addr) (c : Nat) (xs : List Int) (w : World) (hr : Kd.C (Kd.int .u64) w A xs.length xs) (hl : xs.length ≤ 1000000) :
    Calls Try.prog 24 #[.slice A xs.length c] w fun e w' => ∃ v, e = .returned v ∧ (Kd.int .u64).R 36 w' w.heap.size (fun _ => True) v xs ∧ Below w.heap.size w w' := by
  have q23 : ∀ (w : World) (a : Option Addr) (n c n' c' : Nat), (binOp .eql 23 (.slice a n c) (.slice none n' c')).run Try.prog w = .ok (.bool a.isNone) w := fun w a n c n' c' => Lib.run_eql_slice_nil w _ _ a n c n' c' Try.underlying23
  have HR := Aside0.mk hr
  clear hr
  rcases A with _ | ad
  · have hnil : xs = [] := by
      rcases Nat.eq_zero_or_pos xs.length with h | h
      · exact List.eq_nil_of_length_eq_zero h
      · obtain ⟨_, h, _⟩ := HR.out.2.2 h
        cases h
    have HN := Aside0.mk hnil
    clear hnil
    go_enter Try.func24, Try.ntmps24
    go_wp2_with fail
    go_ret
    exact ⟨_, rfl, by rw [HN.out]; exact Kd.R_nil _ _ _ _ _, Below.refl _ _⟩
  · go_enter Try.func24, Try.ntmps24
    have HE := Aside0.mk (R_empty (Kd.int .u64) 36 w w.heap.size (Nat.le_refl _))
    go_wp2_with (at_builtin; go_loud (refine Kd.R_append_rows (Kd.int .u64) (w0 := w) w.heap.size rfl (.tmp 5) (.tmp 6) 23 36 (.int .u64 0) 8 rfl Try.underlying23 info36 rfl (by decide) (by omega) _ [] xs _ _ _ (fun _ => True) (fun _ => False) rfl rfl HE.out (Kd.C_alloc HR.out _) (fun _ _ h => h) (fun _ h => h.elim) (fun _ _ => trivial) (below_alloc (Below.refl _ _) _) (by simp) (by simp; omega) ?_); intro v1 w1 ho1 hb1 _ _)
    go_ret
    exact ⟨_, rfl, by simpa using ho1, hb1⟩
/-- A number copied. -/
theorem clone_rd {A : Option Addr} {c : Nat} {xs : List Int} (w : World) (h : Rd w A c xs) (hl : xs.length ≤ 1000000) : Calls Try.prog 24 #[.slice A xs.length c] w (Out w fun r => r = xs) := by
  refine (clone_calls A c xs w h.r hl).mono ?_
  rintro e w' ⟨v, rfl, i1, i2⟩
  exact out_R i1 i2 h.l rfl
end Go.Proofs.Ytdaelbihfdlgkaa.Ng
