/- The document's Same of tables: the plain law, and the function. -/
import Derived.Test.YtdlkcohfgfnkbaaDFs
import Derived.Test.YtdlkcohfgfnkbaaTs
namespace Go.Proofs.Ytdlkcohfgfnkbaa.Sm
open Go.RowKit Go.Proofs.Ytdlkcohfgfnkbaa.PDatasetJoins Go.Proofs.Ytdlkcohfgfnkbaa.DFns Go.Proofs.Ytdlkcohfgfnkbaa.Tp Go.Proofs.Ytdlkcohfgfnkbaa.Tr Go.Proofs.YtdlkcohfgfnkbaaW.PrintWords Go.Proofs.YtdlkcohfgfnkbaaW.PrintLast Go.Proofs.YtdlkcohfgfnkbaaW.PrintMore
set_option linter.unusedSimpArgs false
set_option linter.unusedVariables false

theorem same_l0 (a b d e : List Int) (f g : List (List Int)) (hl : f.length = g.length) (hf : f.length ≤ 140737488351232) (hz : ∀ x ∈ f, x.length ≤ 140737488351232) : ∀ (n i : Nat), i + n = f.length →
    Ev (fun k => windbreakref15_Same.l0 k (i : Int) a b f d e g) (decide (f.drop i = g.drop i))
  | 0, i, hi => by
    rw [List.drop_eq_nil_of_le (by omega), List.drop_eq_nil_of_le (by omega), decide_eq_true rfl]
    refine Ev.step (fun k => ?_) (Ev.now _)
    simp only [windbreakref15_Same.l0]
    rw [if_neg (by omega)]
  | n + 1, i, hi => by
    have ih := same_l0 a b d e f g hl hf hz n (i + 1) (by omega)
    have e1 : f.drop i = f.getD i [] :: f.drop (i + 1) := by
      rw [List.drop_eq_getElem_cons (show i < f.length by omega), List.getD_eq_getElem?_getD, List.getElem?_eq_getElem (show i < f.length by omega), Option.getD_some]
    have e2 : g.drop i = g.getD i [] :: g.drop (i + 1) := by
      rw [List.drop_eq_getElem_cons (show i < g.length by omega), List.getD_eq_getElem?_getD, List.getElem?_eq_getElem (show i < g.length by omega), Option.getD_some]
    have hm : f.getD i [] ∈ f := by
      rw [List.getD_eq_getElem?_getD, List.getElem?_eq_getElem (show i < f.length by omega), Option.getD_some]
      exact List.getElem_mem _
    refine Ev.step (f := fun k => (windbreakref12_SameInts.f k (f.getD i []) (g.getD i [])).bind fun t238 => (if t238 = true then (windbreakref15_Same.l0 k (((i + 1 : Nat) : Int)) a b f d e g) else (some false))) (fun k => ?_) (Ev.bind (ref_sameInts _ _ (hz _ hm)) ?_)
    · simp only [windbreakref15_Same.l0]
      rw [if_pos (by omega), if_pos (by omega), if_pos (by omega), wrap64_small (by omega) (by omega), rdL_getD, rdL_getD]
      rfl
    · by_cases h : f.getD i [] = g.getD i []
      · rw [decide_eq_true h, e1, e2, h]
        have : decide (g.getD i [] :: f.drop (i + 1) = g.getD i [] :: g.drop (i + 1)) = decide (f.drop (i + 1) = g.drop (i + 1)) := decide_eq_decide.2 ⟨fun q => (List.cons.inj q).2, fun q => by rw [q]⟩
        rw [this]
        refine Ev.congr (fun k => ?_) ih
        rw [if_pos rfl]
      · rw [decide_eq_false h, decide_eq_false (by rw [e1, e2]; exact fun q => h (List.cons.inj q).1)]
        refine Ev.congr (fun k => ?_) (Ev.now _)
        rw [if_neg (by decide)]
theorem ref_same (a b d e : List Int) (f g : List (List Int)) (ha : a.length ≤ 140737488351232) (hb : b.length ≤ 140737488351232) (hf : f.length ≤ 140737488351232) (hz : ∀ x ∈ f, x.length ≤ 140737488351232) :
    Ev (fun k => windbreakref15_Same.f k a b f d e g) (decide (a = d ∧ b = e ∧ f = g)) := by
  refine Ev.congr (f := fun k => (windbreakref12_SameInts.f k a d).bind fun t234 => ((windbreakref12_SameInts.f k b e).bind fun t235 => windbreakref15_Same.j0 k (if t234 = true then (if t235 = true then ((f.length : Int) != (g.length : Int)) else true) else true) a b f d e g)) (fun k => ?_) (Ev.bind (ref_sameInts _ _ ha) (Ev.bind (ref_sameInts _ _ hb) ?_))
  · unfold windbreakref15_Same.f
    congr 1
    funext t
    congr 1
    funext u
    cases t <;> cases u <;> rfl
  · by_cases h1 : a = d
    · rw [decide_eq_true h1, if_pos rfl]
      by_cases h2 : b = e
      · rw [decide_eq_true h2, if_pos rfl]
        by_cases h3 : f.length = g.length
        · have := same_l0 a b d e f g h3 hf hz f.length 0 (by omega)
          rw [List.drop_zero, List.drop_zero] at this
          rw [show decide (a = d ∧ b = e ∧ f = g) = decide (f = g) from decide_eq_decide.2 ⟨fun q => q.2.2, fun q => ⟨h1, h2, q⟩⟩]
          refine Ev.step (fun k => ?_) this
          simp only [windbreakref15_Same.j0]
          rw [if_neg (by rw [bne_iff_ne]; exact fun q => q (by rw [h3]))]
          rfl
        · rw [decide_eq_false (fun q => h3 (by rw [q.2.2]))]
          refine Ev.step (fun k => ?_) (Ev.now _)
          simp only [windbreakref15_Same.j0]
          rw [if_pos (by rw [bne_iff_ne]; omega)]
      · rw [decide_eq_false h2, if_neg (by decide), decide_eq_false (fun q => h2 q.2.1)]
        refine Ev.step (fun k => ?_) (Ev.now _)
        simp only [windbreakref15_Same.j0]
        rfl
    · rw [decide_eq_false h1, if_neg (by decide), decide_eq_false (fun q => h1 q.1)]
      refine Ev.step (fun k => ?_) (Ev.now _)
      simp only [windbreakref15_Same.j0]
      rfl
theorem ref_same_calls (A0 A1 A2 B0 B1 B2 : Option Addr) (c0 c1 c2 d0 d1 d2 : Nat) (a b d e : List Int) (f g : List (List Int)) (w : World) (h : IsTb w A0 A1 A2 c0 c1 c2 a b f) (h' : IsTb w B0 B1 B2 d0 d1 d2 d e g) :
    Calls Try.prog 36 #[.agg (tbV A0 A1 A2 c0 c1 c2 a b f), .agg (tbV B0 B1 B2 d0 d1 d2 d e g)] w fun x w' => x = .returned (.bool (decide (a = d ∧ b = e ∧ f = g))) ∧ Below w.heap.size w w' := by
  obtain ⟨k, hk⟩ := (ref_same a b d e f g h.z0 h.z1 h.z2 h.zc).rounds
  exact windbreakref15_Same.calls k A0 c0 a A1 c1 b A2 c2 f B0 d0 d B1 d1 e B2 d2 g _ w h.r0 h.l0 h.r1 h.l1 h.r2 h.l2 h'.r0 h'.l0 h'.r1 h'.l1 h'.r2 h'.l2 hk
end Go.Proofs.Ytdlkcohfgfnkbaa.Sm
