/- dataset.Take, dataset.Same: the plain laws. -/
import Derived.Test.YtdlkcohfgfnkbaaDFt
import Derived.Test.YtdlkcohfgfnkbaaDFs
import Derived.Test.YtdlkcohfgfnkbaaTp
namespace Go.Proofs.Ytdlkcohfgfnkbaa.Tk
open Go.RowKit Go.Proofs.Ytdlkcohfgfnkbaa.PDatasetJoins Go.Proofs.Ytdlkcohfgfnkbaa.DFns Go.Proofs.Ytdlkcohfgfnkbaa.Tp Go.Proofs.YtdlkcohfgfnkbaaW.PrintWords Go.Proofs.YtdlkcohfgfnkbaaW.PrintLast Go.Proofs.YtdlkcohfgfnkbaaW.PrintMore
set_option linter.unusedSimpArgs false
set_option linter.unusedVariables false

/-- A column's rows at the ids xs. -/
def colT (ids xs c : List Int) : List Int := xs.map fun x => rd c (plI ids x)
def takeOk (ids bins : List Int) (cols : List (List Int)) (xs : List Int) : Prop := tabB ids bins cols = true ∧ idsB xs = true ∧ ∀ x ∈ xs, x ∈ ids
instance (ids bins : List Int) (cols : List (List Int)) (xs : List Int) : Decidable (takeOk ids bins cols xs) := by unfold takeOk; infer_instance
/-- What Take answers. -/
def takeP (ids bins : List Int) (cols : List (List Int)) (xs : List Int) : List Int × List Int × List (List Int) × Int :=
  if takeOk ids bins cols xs then (xs, bins, cols.map (colT ids xs), 0) else ([], [], [], 20)
theorem pl_at {l : List Int} {x : Int} (h : x ∈ l) : ∃ j : Nat, j < l.length ∧ fstIx l x = some j ∧ plI l x = (j : Int) := by
  cases hf : fstIx l x with
  | none => exact absurd h (fstIx_none.1 hf)
  | some j => exact ⟨j, (fstIx_some hf).1, rfl, by unfold plI; rw [hf]⟩
theorem pl_none {l : List Int} {x : Int} (h : x ∉ l) : plI l x = -1 := by unfold plI; rw [fstIx_none.2 h]
theorem ids_facts {l : List Int} (h : idsB l = true) : l.length ≤ 256 ∧ (∀ x ∈ l, 0 ≤ x ∧ x ≤ 1073741824) ∧ l.Nodup := of_decide_eq_true h
theorem tab_facts {ids bins : List Int} {cols : List (List Int)} (h : tabB ids bins cols = true) : idsB ids = true ∧ cols.length ≤ 16 ∧ bins.length = cols.length ∧ ∀ i, i < cols.length → colB ids.length (bins.getD i 0) (cols.getD i []) = true := by
  unfold tabB at h
  rw [Bool.and_eq_true] at h
  exact ⟨h.1, of_decide_eq_true h.2⟩
theorem col_len {ids bins : List Int} {cols : List (List Int)} (h : tabB ids bins cols = true) (m : Nat) (hm : m < cols.length) : (cols.getD m []).length = ids.length := by
  have := (of_decide_eq_true ((tab_facts h).2.2.2 m hm)).2.2.1
  omega
theorem take_snoc {α : Type} (l : List α) (i : Nat) (h : i < l.length) : l.take (i + 1) = l.take i ++ [l[i]] := List.take_succ_eq_append_getElem h
theorem map_take_snoc (ids xs c : List Int) (i : Nat) (h : i < xs.length) : (colT ids xs c).take (i + 1) = (colT ids xs c).take i ++ [rd c (plI ids (rd xs (i : Int)))] := by
  rw [take_snoc _ i (by unfold colT; rw [List.length_map]; exact h)]
  congr 2
  unfold colT
  rw [List.getElem_map, rd_get xs i h]
theorem take_l2 (ids bins : List Int) (cols : List (List Int)) (xs r0 r1 : List Int) (out : List (List Int)) (m : Nat) (hm : m < cols.length) (ht : tabB ids bins cols = true) (hx : xs.length ≤ 256) (ha : ∀ x ∈ xs, x ∈ ids) (ho : out.length ≤ 16) (R : List Int × List Int × List (List Int) × Int)
    (hR : Ev (fun k => windbreakref15_Take.l1 k xs ((m + 1 : Nat) : Int) ids bins cols r0 r1 (out ++ [colT ids xs (cols.getD m [])])) R) : ∀ (d i : Nat), i + d = xs.length →
    Ev (fun k => windbreakref15_Take.l2 k xs (m : Int) ((colT ids xs (cols.getD m [])).take i) (i : Int) ids bins cols r0 r1 out) R
  | 0, i, hi => by
    refine Ev.step (fun k => ?_) hR
    simp only [windbreakref15_Take.l2]
    have hc := (tab_facts ht).2.1
    rw [if_neg (by omega), if_pos (by omega), wrap64_small (by omega) (by omega), List.take_of_length_le (by unfold colT; rw [List.length_map]; omega)]
    rfl
  | d + 1, i, hi => by
    have ih := take_l2 ids bins cols xs r0 r1 out m hm ht hx ha ho R hR d (i + 1) (by omega)
    have hc := (tab_facts ht).2.1
    have hil := (ids_facts (tab_facts ht).1).1
    have hcl := col_len ht m hm
    obtain ⟨j, hj, _, hp⟩ := pl_at (ha _ (rd_mem xs i (by omega)))
    rw [map_take_snoc ids xs _ i (by omega)] at ih
    refine Ev.step (f := fun k => (windbreakref15_place.f k ids (rd xs (i : Int))).bind fun t269 => (if 0 ≤ t269 then (if t269 < ((cols.getD m []).length : Int) then (if ((colT ids xs (cols.getD m [])).take i).length < 17592186044416 then (windbreakref15_Take.l2 k xs (m : Int) ((colT ids xs (cols.getD m [])).take i ++ [rd (cols.getD m []) t269]) (((i + 1 : Nat) : Int)) ids bins cols r0 r1 out) else none) else none) else none)) (fun k => ?_) (Ev.bind (ref_place ids _ (by omega)) ?_)
    · simp only [windbreakref15_Take.l2]
      rw [if_pos (by omega), if_pos (by omega), if_pos (by omega), if_pos (by omega), rdL_getD, wrap64_small (by omega) (by omega)]
      rfl
    · rw [hp] at ih ⊢
      refine Ev.congr (fun k => ?_) ih
      rw [if_pos (by omega), if_pos (by omega), if_pos (by rw [List.length_take]; unfold colT; rw [List.length_map]; omega)]
theorem take_l1 (ids bins : List Int) (cols : List (List Int)) (xs r0 r1 : List Int) (ht : tabB ids bins cols = true) (hx : xs.length ≤ 256) (ha : ∀ x ∈ xs, x ∈ ids) : ∀ (d m : Nat), m + d = cols.length →
    Ev (fun k => windbreakref15_Take.l1 k xs (m : Int) ids bins cols r0 r1 ((cols.map (colT ids xs)).take m)) (r0, r1, cols.map (colT ids xs), 0)
  | 0, m, hm => by
    refine Ev.step (fun k => ?_) (Ev.now _)
    simp only [windbreakref15_Take.l1]
    rw [if_neg (by omega), List.take_of_length_le (by rw [List.length_map]; omega)]
  | d + 1, m, hm => by
    have ih := take_l1 ids bins cols xs r0 r1 ht hx ha d (m + 1) (by omega)
    have hc := (tab_facts ht).2.1
    have e : (cols.map (colT ids xs)).take (m + 1) = (cols.map (colT ids xs)).take m ++ [colT ids xs (cols.getD m [])] := by
      rw [take_snoc _ m (by rw [List.length_map]; omega)]
      congr 2
      rw [List.getElem_map, List.getD_eq_getElem?_getD, List.getElem?_eq_getElem (show m < cols.length by omega), Option.getD_some]
    rw [e] at ih
    refine Ev.step (fun k => ?_) (take_l2 ids bins cols xs r0 r1 ((cols.map (colT ids xs)).take m) m (by omega) ht hx ha (by rw [List.length_take, List.length_map]; omega) _ ih xs.length 0 (by omega))
    simp only [windbreakref15_Take.l1]
    rw [if_pos (by omega), List.take_zero]
    rfl
theorem take_l0 (ids bins : List Int) (cols : List (List Int)) (xs r0 r1 : List Int) (ht : tabB ids bins cols = true) (hx : xs.length ≤ 256) : ∀ (d i : Nat), i + d = xs.length → (∀ x ∈ xs.take i, x ∈ ids) →
    Ev (fun k => windbreakref15_Take.l0 k xs (i : Int) ids bins cols r0 r1) (if ∀ x ∈ xs, x ∈ ids then (r0, r1, cols.map (colT ids xs), 0) else ([], [], [], 20))
  | 0, i, hi, ha => by
    rw [List.take_of_length_le (by omega)] at ha
    rw [if_pos ha]
    refine Ev.step (fun k => ?_) (take_l1 ids bins cols xs r0 r1 ht hx ha cols.length 0 (by omega))
    simp only [windbreakref15_Take.l0]
    rw [if_neg (by omega), List.take_zero]
    rfl
  | d + 1, i, hi, ha => by
    have hil := (ids_facts (tab_facts ht).1).1
    by_cases hm : rd xs (i : Int) ∈ ids
    · have ih := take_l0 ids bins cols xs r0 r1 ht hx d (i + 1) (by omega) (fun x hx' => by
        rw [take_snoc xs i (by omega), List.mem_append, List.mem_singleton, ← rd_get xs i (by omega)] at hx'
        rcases hx' with h | rfl
        · exact ha x h
        · exact hm)
      obtain ⟨j, hj, _, hp⟩ := pl_at hm
      refine Ev.step (f := fun k => (windbreakref15_place.f k ids (rd xs (i : Int))).bind fun t266 => (if t266 < 0 then (some (([] : List Int), ([] : List Int), ([] : List (List Int)), 20)) else (windbreakref15_Take.l0 k xs (((i + 1 : Nat) : Int)) ids bins cols r0 r1))) (fun k => ?_) (Ev.bind (ref_place ids _ (by omega)) ?_)
      · simp only [windbreakref15_Take.l0]
        rw [if_pos (by omega), if_pos (by omega), wrap64_small (by omega) (by omega)]
        rfl
      · rw [hp]
        refine Ev.congr (fun k => ?_) ih
        rw [if_neg (by omega)]
    · rw [if_neg (fun h => hm (h _ (rd_mem xs i (by omega))))]
      refine Ev.step (f := fun k => (windbreakref15_place.f k ids (rd xs (i : Int))).bind fun t266 => (if t266 < 0 then (some (([] : List Int), ([] : List Int), ([] : List (List Int)), 20)) else (windbreakref15_Take.l0 k xs (((i + 1 : Nat) : Int)) ids bins cols r0 r1))) (fun k => ?_) (Ev.bind (ref_place ids _ (by omega)) ?_)
      · simp only [windbreakref15_Take.l0]
        rw [if_pos (by omega), if_pos (by omega), wrap64_small (by omega) (by omega)]
        rfl
      · rw [pl_none hm]
        refine Ev.congr (fun k => ?_) (Ev.now _)
        rw [if_pos (by omega)]
theorem ref_take (ids bins : List Int) (cols : List (List Int)) (xs : List Int) : Ev (fun k => windbreakref15_Take.f k ids bins cols xs) (takeP ids bins cols xs) := by
  refine Ev.congr (f := fun k => (windbreakref15_Right.f k ids bins cols).bind fun t250 => ((windbreakref15_RightIds.f k xs).bind fun t251 => windbreakref15_Take.j0 k xs (if t250 = true then !t251 else true) ids bins cols)) (fun k => ?_) (Ev.bind (ref_tab ids bins cols) (Ev.bind (ref_ids xs) ?_))
  · unfold windbreakref15_Take.f
    congr 1
    funext t
    congr 1
    funext u
    cases t <;> rfl
  · unfold takeP
    by_cases ht : tabB ids bins cols = true
    · rw [if_pos ht]
      by_cases hi : idsB xs = true
      · have hx := (ids_facts hi).1
        obtain ⟨_, h16, hbl, _⟩ := tab_facts ht
        have h0 := take_l0 ids bins cols xs xs bins ht hx xs.length 0 (by omega) (by simp)
        have e : (if takeOk ids bins cols xs then (xs, bins, cols.map (colT ids xs), (0 : Int)) else ([], [], [], 20)) = (if ∀ x ∈ xs, x ∈ ids then (xs, bins, cols.map (colT ids xs), 0) else ([], [], [], 20)) := by
          by_cases h : ∀ x ∈ xs, x ∈ ids
          · rw [if_pos ⟨ht, hi, h⟩, if_pos h]
          · rw [if_neg (fun q => h q.2.2), if_neg h]
        rw [e, hi]
        refine Ev.step (fun k => ?_) h0
        simp only [windbreakref15_Take.j0, Option.bind_some, List.length_nil, List.nil_append, Nat.zero_add]
        rw [if_neg (by decide), if_pos (by omega), if_pos (by omega)]
        rfl
      · rw [if_neg (fun h => hi h.2.1), Bool.eq_false_iff.2 hi]
        refine Ev.step (fun k => ?_) (Ev.now _)
        simp only [windbreakref15_Take.j0]
        rfl
    · rw [if_neg ht, if_neg (fun h => ht h.1)]
      refine Ev.step (fun k => ?_) (Ev.now _)
      simp only [windbreakref15_Take.j0]
      rfl

theorem same_l0 (a b d e : List Int) (f g : List (List Int)) (hl : f.length = g.length) (hf : f.length ≤ 140737488351232) (hz : ∀ x ∈ f, x.length ≤ 140737488351232) : ∀ (n i : Nat), i + n = f.length →
    Ev (fun k => windbreakref15_Same.l0 k (i : Int) a b f d e g) (decide (f.drop i = g.drop i))
  | 0, i, hi => by
    rw [List.drop_eq_nil_of_le (by omega), List.drop_eq_nil_of_le (by omega), decide_eq_true rfl]
    refine Ev.step (fun k => ?_) (Ev.now _)
    simp only [windbreakref15_Same.l0]
    rw [if_neg (by omega)]
  | n + 1, i, hi => by
    have ih := same_l0 a b d e f g hl hf hz n (i + 1) (by omega)
    have e1 : f.drop i = f.getD i [] :: f.drop (i + 1) := by
      rw [List.drop_eq_getElem_cons (show i < f.length by omega), List.getD_eq_getElem?_getD, List.getElem?_eq_getElem (show i < f.length by omega), Option.getD_some]
    have e2 : g.drop i = g.getD i [] :: g.drop (i + 1) := by
      rw [List.drop_eq_getElem_cons (show i < g.length by omega), List.getD_eq_getElem?_getD, List.getElem?_eq_getElem (show i < g.length by omega), Option.getD_some]
    have hm : f.getD i [] ∈ f := by
      rw [List.getD_eq_getElem?_getD, List.getElem?_eq_getElem (show i < f.length by omega), Option.getD_some]
      exact List.getElem_mem _
    refine Ev.step (f := fun k => (windbreakref12_SameInts.f k (f.getD i []) (g.getD i [])).bind fun t238 => (if t238 = true then (windbreakref15_Same.l0 k (((i + 1 : Nat) : Int)) a b f d e g) else (some false))) (fun k => ?_) (Ev.bind (ref_sameInts _ _ (hz _ hm)) ?_)
    · simp only [windbreakref15_Same.l0]
      rw [if_pos (by omega), if_pos (by omega), if_pos (by omega), wrap64_small (by omega) (by omega), rdL_getD, rdL_getD]
      rfl
    · by_cases h : f.getD i [] = g.getD i []
      · rw [decide_eq_true h, e1, e2, h]
        have : decide (g.getD i [] :: f.drop (i + 1) = g.getD i [] :: g.drop (i + 1)) = decide (f.drop (i + 1) = g.drop (i + 1)) := decide_eq_decide.2 ⟨fun q => (List.cons.inj q).2, fun q => by rw [q]⟩
        rw [this]
        refine Ev.congr (fun k => ?_) ih
        rw [if_pos rfl]
      · rw [decide_eq_false h, decide_eq_false (by rw [e1, e2]; exact fun q => h (List.cons.inj q).1)]
        refine Ev.congr (fun k => ?_) (Ev.now _)
        rw [if_neg (by decide)]
theorem ref_same (a b d e : List Int) (f g : List (List Int)) (ha : a.length ≤ 140737488351232) (hb : b.length ≤ 140737488351232) (hf : f.length ≤ 140737488351232) (hz : ∀ x ∈ f, x.length ≤ 140737488351232) :
    Ev (fun k => windbreakref15_Same.f k a b f d e g) (decide (a = d ∧ b = e ∧ f = g)) := by
  refine Ev.congr (f := fun k => (windbreakref12_SameInts.f k a d).bind fun t234 => ((windbreakref12_SameInts.f k b e).bind fun t235 => windbreakref15_Same.j0 k (if t234 = true then (if t235 = true then ((f.length : Int) != (g.length : Int)) else true) else true) a b f d e g)) (fun k => ?_) (Ev.bind (ref_sameInts _ _ ha) (Ev.bind (ref_sameInts _ _ hb) ?_))
  · unfold windbreakref15_Same.f
    congr 1
    funext t
    congr 1
    funext u
    cases t <;> cases u <;> rfl
  · by_cases h1 : a = d
    · rw [decide_eq_true h1, if_pos rfl]
      by_cases h2 : b = e
      · rw [decide_eq_true h2, if_pos rfl]
        by_cases h3 : f.length = g.length
        · have := same_l0 a b d e f g h3 hf hz f.length 0 (by omega)
          rw [List.drop_zero, List.drop_zero] at this
          rw [show decide (a = d ∧ b = e ∧ f = g) = decide (f = g) from decide_eq_decide.2 ⟨fun q => q.2.2, fun q => ⟨h1, h2, q⟩⟩]
          refine Ev.step (fun k => ?_) this
          simp only [windbreakref15_Same.j0]
          rw [if_neg (by rw [bne_iff_ne]; exact fun q => q (by rw [h3]))]
          rfl
        · rw [decide_eq_false (fun q => h3 (by rw [q.2.2]))]
          refine Ev.step (fun k => ?_) (Ev.now _)
          simp only [windbreakref15_Same.j0]
          rw [if_pos (by rw [bne_iff_ne]; omega)]
      · rw [decide_eq_false h2, if_neg (by decide), decide_eq_false (fun q => h2 q.2.1)]
        refine Ev.step (fun k => ?_) (Ev.now _)
        simp only [windbreakref15_Same.j0]
        rfl
    · rw [decide_eq_false h1, if_neg (by decide), decide_eq_false (fun q => h1 q.1)]
      refine Ev.step (fun k => ?_) (Ev.now _)
      simp only [windbreakref15_Same.j0]
      rfl
end Go.Proofs.Ytdlkcohfgfnkbaa.Tk
