/- Parts of the proof of LinkArrives, merged: each is proved for all its inputs. -/
import Derived.Test.YtekakngojhnleaaMgLinkArrivese
import Derived.WideShapes
import Derived.Test.YtekakngojhnleaaMgLinkArrivesn
import Derived.Test.YtekakngojhnleaaMgLinkArriveso
import Derived.Test.YtekakngojhnleaaMgLinkArrivesp
import Derived.Test.YtekakngojhnleaaMgLinkArrivesq
/- Links: how steps are opened as an argument. -/
namespace Go.Proofs.Ytekakngojhnleaa.Wo
open Go.ChangeShapes Go.WideShapes Go.RowKit Go.Proofs.YtekakngojhnleaaW.PrintWords Go.Proofs.Ytekakngojhnleaa Go.Proofs.Ytekakngojhnleaa.Wk
set_option linter.unusedVariables false

def goodT (x : St) : Prop := (Lit.int .i64 x.1).wf = true ∧ (Lit.int .i64 x.2.1).wf = true ∧ (Lit.int .i64 x.2.2.1).wf = true ∧ (x.2.2.2.length * 1 ≤ reachBytes ∧ ∀ y ∈ x.2.2.2, (Lit.int .u8 y).wf = true)
theorem opens_step : Opn.Opens Try.prog 62 kSt goodT :=
 Opn.opens_struct Try.underlying62 (Opn.Flds.more (Opn.opens_int Try.underlying3) rfl (by kernel_rfl) (Opn.Flds.more (Opn.opens_int Try.underlying3) rfl (by kernel_rfl) (Opn.Flds.more (Opn.opens_int Try.underlying3) rfl (by kernel_rfl)
  (Opn.Flds.one (Opn.opens_slice (Opn.opens_int Try.underlying5) Try.underlying30 (by kernel_rfl) 5 (by kernel_rfl)) rfl (by kernel_rfl))))) (by kernel_rfl)
/-- The steps, as they lie. -/
structure IsSteps (W : World) (A : Option Addr) (c : Nat) (xs : List St) : Prop where
 reads : Kd.C kSt W A xs.length xs
 len : xs.length ≤ 140737488351232
 good : ∀ x ∈ xs, GoodS x
set_option maxRecDepth 100000 in
theorem open_steps (j : Nat) {H : Type} {enc : TypeId × Value → H} {W : World} {base r0 : Nat} {r : Reach} {spare : Nat → Bool} {held : Bool} {ts : List TypeId} {ds : List (DataW H)} {dd : DataW H} {p : List MemPlace} (hj : ts[j]? = some 60) (hd : ds[j]? = some dd)
  {v : Value} (hv : Value.okWide Try.prog W r r0 60 v) (h : DataW.Trod enc Try.prog W base spare held 60 v dd p) (hsz : (DataW.weightsEach Try.prog ts ds).all (· ≤ reachBytes) = true) :
  ∃ x : List St × Option Addr × Nat, v = .slice x.2.1 x.1.length x.2.2 ∧ IsSteps W x.2.1 x.2.2 x.1 := by
 obtain ⟨A, len, cap, rfl⟩ := okWide_slice Try.underlying60 hv
 obtain ⟨fuel, hf⟩ := h
 obtain ⟨xs, ⟨A', c', he, hl, hr⟩, h1, h2⟩ := Opn.opens_slice opens_step Try.underlying60 (by kernel_rfl) 62 (B := 48) (by kernel_rfl) hf (fun b hb => by
  have := List.all_eq_true.1 hsz _ (DataW.weights_mem_each hj hd b hb)
  simpa using this)
 simp [Value.cells] at he
 obtain ⟨rfl, rfl, rfl⟩ := he
 refine ⟨(xs, A, cap), rfl, hr, ?_, fun x hx => ?_⟩
 ·
  have h3 : xs.length * 48 ≤ 140737488351232 := h1
  show xs.length ≤ _
  omega
 ·
  have h3 := h2 x hx
  have h4 : x.2.2.2.length * 1 ≤ 140737488351232 := h3.2.2.2.1
  exact ⟨by omega, _root_.Go.Proofs.Ytekakngojhnleaa.Rd.u8_bytes h3.2.2.2.2⟩
theorem order_row (n : Int) (x : List St × Option Addr × Nat) (W : World) (hn : (Lit.int .i64 n).wf = true) (hx : IsSteps W x.2.1 x.2.2 x.1) :
  Calls Try.prog 12 #[.int .i64 n, .slice x.2.1 x.1.length x.2.2] W fun e w' => e = .returned (.bool true) ∧ Below W.heap.size W w' :=
 order_calls _ _ _ _ W hx.reads hx.len hx.good
end Go.Proofs.Ytekakngojhnleaa.Wo
/- Links: LinkArrives, joined. -/
namespace Go.Proofs.Ytekakngojhnleaa.Wq
open Go.Proofs.Ytekakngojhnleaa.Wk Go.Proofs.Ytekakngojhnleaa.Wl Go.Proofs.Ytekakngojhnleaa.Wm Go.Proofs.Ytekakngojhnleaa.Wn Go.Proofs.Ytekakngojhnleaa.Wp Go.Proofs.Ytekakngojhnleaa.Wo Go.RowKit Go.Maps Go.Proofs.Ytekakngojhnleaa.Mp Go.Proofs.Ytekakngojhnleaa.Mq Go.Proofs.Ytekakngojhnleaa.Lp Go.Proofs.Ytekakngojhnleaa.Lm Go.Proofs.Ytekakngojhnleaa.La Go.Proofs.Ytekakngojhnleaa.Wd Go.Proofs.Ytekakngojhnleaa.We Go.Proofs.Ytekakngojhnleaa.Wf Go.Proofs.Ytekakngojhnleaa.Wg Go.Proofs.Ytekakngojhnleaa.Wh Go.Proofs.Ytekakngojhnleaa.Wi Go.Proofs.Ytekakngojhnleaa.Wj Go.Proofs.Ytekakngojhnleaa.Pr Go.Proofs.YtekakngojhnleaaW.PrintWords Go.Proofs.YtekakngojhnleaaW.PrintLast Go.Proofs.YtekakngojhnleaaW.PrintMore
set_option linter.unusedVariables false
set_option linter.unusedSimpArgs false
variable {w w' : World} {B N g : Nat}
set_option maxRecDepth 100000 in
set_option maxHeartbeats 2000000 in
theorem arrives_no (n : Int) (A : Option Addr) (c k : Nat) (w : World) (hn : n < 1 ∨ 16 < n) :
  Calls Try.prog 13 #[.int .i64 n, .slice A k c] w fun e w' => e = .returned (.bool true) ∧ Below w.heap.size w w' := by
 have HF := Aside0.mk (fresh_no n hn w)
 by_cases h1 : n < 1
 ·
  have hd : decide (n < 1) = true := decide_eq_true h1
  clear hn h1
  go_enter Try.func13, Try.ntmps13
  go_wp2_with fail
  refine HF.out.mono ?_
  rintro e w1 ⟨rfl, hb⟩
  have HB := Aside0.mk hb
  clear hb
  go_wp2_with fail
  go_ret
  exact ⟨rfl, HB.out⟩
 ·
  have hd : decide (n < 1) = false := decide_eq_false h1
  have hd2 : decide (16 < n) = true := decide_eq_true (by omega)
  clear hn h1
  go_enter Try.func13, Try.ntmps13
  go_wp2_with fail
  refine HF.out.mono ?_
  rintro e w1 ⟨rfl, hb⟩
  have HB := Aside0.mk hb
  clear hb
  go_wp2_with fail
  go_ret
  exact ⟨rfl, HB.out⟩
theorem arrives_calls (n : Int) (A : Option Addr) (c : Nat) (xs : List St) (w : World) (hr : Kd.C kSt w A xs.length xs) (hl : xs.length ≤ 140737488351232) (hg : ∀ x ∈ xs, GoodS x) :
  Calls Try.prog 13 #[.int .i64 n, .slice A xs.length c] w fun e w' => e = .returned (.bool true) ∧ Below w.heap.size w w' := by
 by_cases hn : n < 1 ∨ 16 < n
 ·
  exact arrives_no n A c _ w hn
 ·
  obtain ⟨m, rfl⟩ : ∃ m : Nat, n = (m : Int) := ⟨n.toNat, by omega⟩
  rcases Nat.eq_zero_or_pos xs.length with h | h
  ·
   rw [h]; exact arrives_nil m (by omega) (by omega) A c w
  ·
   obtain ⟨ad, rfl, _⟩ := hr.2.2 h
   by_cases h3 : xs.length ≤ 300
   ·
    exact arrives_le m (by omega) (by omega) ad c xs w hr hl h3 hg
   ·
    exact arrives_gt m (by omega) (by omega) ad c xs w hr hl (by omega) hg
theorem arrives_row (n : Int) (x : List St × Option Addr × Nat) (W : World) (hn : (Lit.int .i64 n).wf = true) (hx : IsSteps W x.2.1 x.2.2 x.1) :
  Calls Try.prog 13 #[.int .i64 n, .slice x.2.1 x.1.length x.2.2] W fun e w' => e = .returned (.bool true) ∧ Below W.heap.size W w' :=
 arrives_calls _ _ _ _ W hx.reads hx.len hx.good
end Go.Proofs.Ytekakngojhnleaa.Wq
