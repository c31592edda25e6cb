/- dataset.Join: the plain law. -/
import Derived.Test.YtdlkcohfgfnkbaaDFj
import Derived.Test.YtdlkcohfgfnkbaaTp
namespace Go.Proofs.Ytdlkcohfgfnkbaa.Jp
open Go.RowKit Go.Proofs.Ytdlkcohfgfnkbaa.PDatasetJoins Go.Proofs.Ytdlkcohfgfnkbaa.DFns Go.Proofs.Ytdlkcohfgfnkbaa.Tp Go.Proofs.YtdlkcohfgfnkbaaW.PrintWords Go.Proofs.YtdlkcohfgfnkbaaW.PrintLast Go.Proofs.YtdlkcohfgfnkbaaW.PrintMore
set_option linter.unusedSimpArgs false
set_option linter.unusedVariables false

/-- A table that may be, of the first one's ids. -/
def goodJ (l : List S43) (x : S43) : Bool := tabB x.f0 x.f1 x.f2 && decide (x.f0 = (rd_T43 l 0).f0)
/-- What is wrong with some tables. -/
def manyT (l : List S43) : Int := if l.length = 0 ∨ 16 < l.length then 1 else if l.any (fun x => !goodJ l x) then 20 else 0
/-- What Join answers. -/
def joinP (l : List S43) : List Int × List Int × List (List Int) × Int :=
  if manyT l = 0 then ((rd_T43 l 0).f0, l.flatMap (·.f1), l.flatMap (·.f2), 0) else ([], [], [], manyT l)
theorem rdT_at (l : List S43) (i : Nat) (h : i < l.length) : rd_T43 l (i : Int) = l[i] := by
  unfold rd_T43
  rw [Int.toNat_natCast, List.getD_eq_getElem?_getD, List.getElem?_eq_getElem h, Option.getD_some]
theorem rdT_mem (l : List S43) (i : Nat) (h : i < l.length) : rd_T43 l (i : Int) ∈ l := by rw [rdT_at l i h]; exact List.getElem_mem _
theorem tabF {ids bins : List Int} {cols : List (List Int)} (h : tabB ids bins cols = true) : idsB ids = true ∧ cols.length ≤ 16 ∧ bins.length = cols.length ∧ ∀ i, i < cols.length → colB ids.length (bins.getD i 0) (cols.getD i []) = true := by
  unfold tabB at h
  rw [Bool.and_eq_true] at h
  exact ⟨h.1, of_decide_eq_true h.2⟩
theorem idsF {l : List Int} (h : idsB l = true) : l.length ≤ 256 ∧ (∀ x ∈ l, 0 ≤ x ∧ x ≤ 1073741824) ∧ l.Nodup := of_decide_eq_true h
theorem colF {ids bins : List Int} {cols : List (List Int)} (h : tabB ids bins cols = true) (m : Nat) (hm : m < cols.length) : (cols.getD m []).length = ids.length := by
  have := (of_decide_eq_true ((tabF h).2.2.2 m hm)).2.2.1
  omega
theorem snocT {β : Type} (l : List S43) (f : S43 → List β) (i : Nat) (h : i < l.length) : (l.take (i + 1)).flatMap f = (l.take i).flatMap f ++ f (rd_T43 l (i : Int)) := by
  rw [List.take_succ_eq_append_getElem h, List.flatMap_append, rdT_at l i h]
  simp
theorem few {β : Type} (l : List S43) (f : S43 → List β) (hf : ∀ x ∈ l, (f x).length ≤ 16) : ∀ i, i ≤ l.length → ((l.take i).flatMap f).length ≤ 16 * i
  | 0, _ => by simp
  | i + 1, h => by
    have := few l f hf i (by omega)
    have := hf _ (rdT_mem l i (by omega))
    rw [snocT l f i (by omega), List.length_append]
    omega
theorem good_all {l : List S43} (h : ∀ x ∈ l, goodJ l x = true) (x : S43) (hx : x ∈ l) : tabB x.f0 x.f1 x.f2 = true ∧ x.f0 = (rd_T43 l 0).f0 := by
  have := h x hx
  unfold goodJ at this
  rw [Bool.and_eq_true] at this
  exact ⟨this.1, of_decide_eq_true this.2⟩
theorem join_l2 (l : List S43) (h16 : l.length ≤ 16) (hg : ∀ x ∈ l, goodJ l x = true) (m : Nat) (hm : m < l.length) (r0 r1 : List Int) (R : List Int × List Int × List (List Int) × Int)
    (hR : Ev (fun k => windbreakref15_Join.l1 k l ((m + 1 : Nat) : Int) r0 r1 ((l.take (m + 1)).flatMap (·.f2))) R) : ∀ (d i : Nat), i + d = (rd_T43 l (m : Int)).f2.length →
    Ev (fun k => windbreakref15_Join.l2 k l (m : Int) (i : Int) r0 r1 ((l.take m).flatMap (·.f2) ++ (rd_T43 l (m : Int)).f2.take i)) R
  | 0, i, hi => by
    refine Ev.step (fun k => ?_) hR
    simp only [windbreakref15_Join.l2]
    rw [if_pos (by omega), if_pos (by omega), if_neg (by omega), wrap64_small (by omega) (by omega), snocT l (·.f2) m hm]
    rw [show (rd_T43 l (m : Int)).f2.take i = (rd_T43 l (m : Int)).f2 from List.take_of_length_le (by omega)]
    rfl
  | d + 1, i, hi => by
    have ih := join_l2 l h16 hg m hm r0 r1 R hR d (i + 1) (by omega)
    obtain ⟨ht, _⟩ := good_all hg _ (rdT_mem l m hm)
    have hc := colF ht i (by omega)
    have hid := (idsF (tabF ht).1).1
    have h2 := few l (·.f2) (fun x hx => (tabF (good_all hg x hx).1).2.1) m (by omega)
    have h3 := (tabF ht).2.1
    have e : (rd_T43 l (m : Int)).f2.take (i + 1) = (rd_T43 l (m : Int)).f2.take i ++ [(rd_T43 l (m : Int)).f2.getD i []] := by
      rw [List.take_succ_eq_append_getElem (by omega), List.getD_eq_getElem?_getD, List.getElem?_eq_getElem (show i < (rd_T43 l (m : Int)).f2.length by omega), Option.getD_some]
    have hl : ((rd_T43 l (m : Int)).f2.take i).length ≤ 16 := by rw [List.length_take]; omega
    rw [e, ← List.append_assoc] at ih
    refine Ev.step (fun k => ?_) ih
    simp only [windbreakref15_Join.l2, Option.bind_some, List.length_nil, List.nil_append, Nat.zero_add]
    rw [if_pos (by omega), if_pos (by omega), if_pos (by omega), if_pos (by omega), rdL_getD, if_pos (by omega), if_pos (by rw [List.length_append]; omega), wrap64_small (by omega) (by omega)]
    rfl
theorem join_l1 (l : List S43) (h16 : l.length ≤ 16) (hg : ∀ x ∈ l, goodJ l x = true) (r0 : List Int) : ∀ (d m : Nat), m + d = l.length →
    Ev (fun k => windbreakref15_Join.l1 k l (m : Int) r0 ((l.take m).flatMap (·.f1)) ((l.take m).flatMap (·.f2))) (r0, l.flatMap (·.f1), l.flatMap (·.f2), 0)
  | 0, m, hm => by
    refine Ev.step (fun k => ?_) (Ev.now _)
    simp only [windbreakref15_Join.l1]
    rw [if_neg (by omega), show l.take m = l from List.take_of_length_le (by omega)]
  | d + 1, m, hm => by
    have ih := join_l1 l h16 hg r0 d (m + 1) (by omega)
    have h1 := few l (·.f1) (fun x hx => by have := tabF (good_all hg x hx).1; omega) m (by omega)
    have hx := tabF (good_all hg _ (rdT_mem l m (by omega))).1
    rw [snocT l (·.f1) m (by omega)] at ih
    have h2 := join_l2 l h16 hg m (by omega) r0 _ _ ih (rd_T43 l (m : Int)).f2.length 0 (by omega)
    rw [List.take_zero, List.append_nil] at h2
    refine Ev.step (fun k => ?_) h2
    simp only [windbreakref15_Join.l1]
    rw [if_pos (by omega), if_pos (by omega), if_pos (by omega)]
    rfl
theorem join_l0 (l : List S43) (h0 : 0 < l.length) (h16 : l.length ≤ 16) (hz : ∀ x ∈ l, x.f0.length ≤ 140737488351232) : ∀ (d i : Nat), i + d = l.length → (∀ x ∈ l.take i, goodJ l x = true) →
    Ev (fun k => windbreakref15_Join.l0 k l (i : Int)) (if ∀ x ∈ l, goodJ l x = true then ((rd_T43 l 0).f0, l.flatMap (·.f1), l.flatMap (·.f2), 0) else ([], [], [], 20))
  | 0, i, hi, ha => by
    rw [show l.take i = l from List.take_of_length_le (by omega)] at ha
    rw [if_pos ha]
    have h1 := join_l1 l h16 ha (rd_T43 l 0).f0 l.length 0 (by omega)
    have hid := (idsF (tabF (good_all ha _ (rdT_mem l 0 h0)).1).1).1
    rw [List.take_zero] at h1
    refine Ev.step (fun k => ?_) h1
    simp only [windbreakref15_Join.l0, Option.bind_some, List.length_nil, List.nil_append, Nat.zero_add]
    rw [if_neg (by omega), if_pos (by omega), if_pos (by have : (rd_T43 l ((0 : Nat) : Int)).f0.length ≤ 256 := hid; exact Nat.lt_of_le_of_lt this (by omega))]
    rfl
  | d + 1, i, hi, ha => by
    have hm := rdT_mem l i (by omega)
    have hx0 := hz _ hm
    refine Ev.step (f := fun k => (windbreakref15_Right.f k ((rd_T43 l (i : Int)).f0) ((rd_T43 l (i : Int)).f1) ((rd_T43 l (i : Int)).f2)).bind fun t256 => ((windbreakref12_SameInts.f k ((rd_T43 l (i : Int)).f0) ((rd_T43 l 0).f0)).bind fun t259 => (if t256 = true then (if t259 = true then (windbreakref15_Join.l0 k l (((i + 1 : Nat) : Int))) else (some (([] : List Int), ([] : List Int), ([] : List (List Int)), 20))) else (some (([] : List Int), ([] : List Int), ([] : List (List Int)), 20))))) (fun k => ?_) (Ev.bind (ref_tab _ _ _) (Ev.bind (ref_sameInts _ _ hx0) ?_))
    · simp only [windbreakref15_Join.l0]
      rw [if_pos (by omega), if_pos (by omega), wrap64_small (by omega) (by omega)]
      congr 1
      funext t
      rw [if_pos (by omega)]
      rfl
    · by_cases hg : goodJ l (rd_T43 l (i : Int)) = true
      · have ih := join_l0 l h0 h16 hz d (i + 1) (by omega) (fun x hx => by
          rw [List.take_succ_eq_append_getElem (show i < l.length by omega), List.mem_append, List.mem_singleton, ← rdT_at l i (by omega)] at hx
          rcases hx with h | rfl
          · exact ha x h
          · exact hg)
        have hg' := hg
        unfold goodJ at hg'
        rw [Bool.and_eq_true] at hg'
        refine Ev.congr (fun k => ?_) ih
        rw [if_pos hg'.1, if_pos hg'.2]
      · rw [if_neg (fun h => hg (h _ hm))]
        refine Ev.congr (fun k => ?_) (Ev.now _)
        unfold goodJ at hg
        rw [Bool.and_eq_true] at hg
        by_cases h1 : tabB (rd_T43 l (i : Int)).f0 (rd_T43 l (i : Int)).f1 (rd_T43 l (i : Int)).f2 = true
        · rw [if_pos h1, if_neg (fun h2 => hg ⟨h1, h2⟩)]
        · rw [if_neg h1]
theorem ref_join (l : List S43) (hz : ∀ x ∈ l, x.f0.length ≤ 140737488351232) : Ev (fun k => windbreakref15_Join.f k l) (joinP l) := by
  unfold windbreakref15_Join.f joinP
  by_cases h0 : l.length = 0
  · have hm : manyT l = 1 := if_pos (Or.inl h0)
    rw [hm, if_neg (by decide)]
    refine Ev.congr (fun k => by rw [if_pos (by omega)]) (Ev.step (fun k => ?_) (Ev.now _))
    simp only [windbreakref15_Join.j0]
    rfl
  · by_cases h1 : 16 < l.length
    · have hm : manyT l = 1 := if_pos (Or.inr h1)
      rw [hm, if_neg (by decide)]
      refine Ev.congr (fun k => by rw [if_neg (by omega), decide_eq_true (by omega)]) (Ev.step (fun k => ?_) (Ev.now _))
      simp only [windbreakref15_Join.j0]
      rfl
    · have h2 := join_l0 l (by omega) (by omega) hz l.length 0 (by omega) (by simp)
      have e : (if manyT l = 0 then ((rd_T43 l 0).f0, l.flatMap (·.f1), l.flatMap (·.f2), (0 : Int)) else ([], [], [], manyT l)) = (if ∀ x ∈ l, goodJ l x = true then ((rd_T43 l 0).f0, l.flatMap (·.f1), l.flatMap (·.f2), 0) else ([], [], [], 20)) := by
        have hn : ¬ (l.length = 0 ∨ 16 < l.length) := by omega
        by_cases hg : ∀ x ∈ l, goodJ l x = true
        · have : l.any (fun x => !goodJ l x) = false := by
            rw [List.any_eq_false]
            intro x hx
            rw [hg x hx]
            decide
          rw [if_pos hg, if_pos (by unfold manyT; rw [if_neg hn, this]; rfl)]
        · have : l.any (fun x => !goodJ l x) = true := by
            rw [List.any_eq_true]
            simp only [Classical.not_forall] at hg
            obtain ⟨x, hx, hb⟩ := hg
            exact ⟨x, hx, by rw [Bool.eq_false_iff.2 hb]; rfl⟩
          have hm : manyT l = 20 := by unfold manyT; rw [if_neg hn, this]; rfl
          rw [if_neg hg, hm, if_neg (by decide)]
      rw [e]
      refine Ev.congr (fun k => by rw [if_neg (by omega), decide_eq_false (by omega)]) (Ev.step (fun k => ?_) h2)
      simp only [windbreakref15_Join.j0]
      rw [if_neg (by decide)]
      rfl
end Go.Proofs.Ytdlkcohfgfnkbaa.Jp
