/- slices.Clone of ints: the walk. -/
import Derived.Test.YtfimakplmkbbjaaPSessionScriptsx1
import Derived.ProofKit
import Derived.Lib.SliceRun
namespace Go.Proofs.Ytfimakplmkbbjaa.Cl
open Go.RowKit Go.Proofs.Ytfimakplmkbbjaa.PSessionScripts Go.Proofs.YtfimakplmkbbjaaW.PrintWords Go.Proofs.YtfimakplmkbbjaaW.PrintLast Go.Proofs.YtfimakplmkbbjaaW.PrintMore
set_option linter.unusedSimpArgs false
set_option linter.unusedVariables false

theorem info3 : (Try.prog.info? 3).map (fun i => (i.zero, i.size, i.bytes)) = some (some (.int .i64 0), 1, 8) := by kernel_rfl
theorem ints_app {ops : Array Oper} {rest : List Oper} {o : Oper} {a : Act} {Q : Exit → Act → World → Prop} {w0 W : World} (base : Nat) (hg : o.guard = none) (s x : Operand)
    (ho : o.op = .call { callee := .builtin .append, args := #[s, x], argTypes := #[32, 32] }) (v : Value) (xs ys : List Int) (A : Option Addr) (m c : Nat) (hs : a.eval s = v) (hx : a.eval x = .slice A m c)
    (HO : (Kd.int .i64).R 3 W base (fun _ => True) v xs) (HR : (Kd.int .i64).C W A m ys) (HB : Below base w0 W) (hbase : base ≤ W.heap.size) (hl : xs.length + m ≤ 17592186044416)
    (h : ∀ A1 n1 c1 w1, Aside0 (n1 = (xs ++ ys).length) → (Kd.int .i64).R 3 w1 base (fun _ => True) (.slice A1 n1 c1) (xs ++ ys) → Below base w0 w1 → W.grownBy w1 v.ownBlock → wpList Try.prog ops Q rest (a.put o.dst (.slice A1 n1 c1)) w1) :
    wpList Try.prog ops Q (o :: rest) a W := by
  refine Kd.R_append_rows (Kd.int .i64) (w0 := w0) base hg s x 32 3 (.int .i64 0) 8 ho Try.underlying32 info3 rfl (by decide) (by omega) v xs ys A m c (fun _ => True) (fun _ => False) hs hx HO HR
    (fun _ _ h => h) (fun _ h => h.elim) (fun _ _ => trivial) HB hbase (by omega) (fun v1 w1 h1 h2 h3 _ => ?_)
  obtain ⟨A1, c1, rfl, hc, hr⟩ := Kd.R_reads h1
  exact h A1 _ c1 w1 ⟨rfl⟩ h1 h2 h3

set_option maxRecDepth 100000 in
set_option maxHeartbeats 400000 in
theorem clone_calls (A : Option Addr) (c : Nat) (l : List Int) (w : World) (hr : Kd.C (Kd.int .i64) w A l.length l) (hl : l.length ≤ 17592186044416) :
    Calls Try.prog 20 #[.slice A l.length c] w fun e w' => ∃ v, e = .returned v ∧ (Kd.int .i64).R 3 w' w.heap.size (fun _ => True) v l ∧ Below w.heap.size w w' := by
  have HR := Aside0.mk hr
  clear hr
  have he := fun w a n c => Lib.run_eql_slice_nil (P := Try.prog) w 32 3 a n c 0 0 Try.underlying32
  go_enter Try.func20, Try.ntmps20
  cases A with
  | none =>
    have h0 : l = [] := by
      have := HR.out
      cases l with
      | nil => rfl
      | cons x r => obtain ⟨ad, h, _⟩ := this.2.2 (by simp); cases h
    subst h0
    go_wp2_with fail
    go_ret
    exact ⟨_, rfl, Kd.R_nil _ _ _ _ _, Below.refl _ _⟩
  | some ad =>
    go_wp2_with (first | ((with_reducible refine gate_dst (N := 5) rfl ?_); (try (refine gate_guard (by rfl) ?_; dsimp only)); refine Kd.R_lit (Kd.int .i64) _ 3 ?hg (N := 5) ?hd (xs := ([] : List Int)) (inner := []) (ok := fun _ => True) (okp := fun _ => True) ?hr ?hp (fun _ hk => hk) trivial (Below.refl _ _) (Nat.le_refl _) (by simp) ?_; (case hd => rfl); (case hg => rfl); (case hr => first | (go_simp; done) | (go_simp; rfl)); (case hp => exact (Reps.none _ _)); intro v1 w1 ho1 hb1 _hg _hn; clear _hg _hn; have HO1 := Aside0.mk ho1; have HB1 := Aside0.mk hb1; clear ho1 hb1) | ((with_reducible refine gate_builtin (b := .append) (xs := #[.tmp 5, .tmp 6]) rfl ?_); (try (refine gate_guard (by rfl) ?_; dsimp only)); at_builtin; refine ints_app (w0 := w) w.heap.size rfl _ _ rfl _ ([] : List Int) l _ _ _ rfl rfl HO1.out (Kd.C_below HR.out HB1.out) HB1.out HB1.out.size (by simpa using hl) ?_; intro A2 n2 c2 w2 hn ho2 hb2 hg2; clear hg2; have HO2 := Aside0.mk ho2; have HB2 := Aside0.mk hb2; clear ho2 hb2))
    go_ret
    exact ⟨_, rfl, HO2.out, HB2.out⟩
end Go.Proofs.Ytfimakplmkbbjaa.Cl
