/- How an argument's reading is opened: from the row's own reading of a value to what its cells say, kind by kind. -/
import Derived.SizedLaws
import Derived.ChangeSlices
import Derived.OpenShut
import Derived.Test.YtfimakplmkbbjaaWWords
import Derived.Test.YtfimakplmkbbjaaWArr
namespace Go.Proofs.Ytfimakplmkbbjaa.Opn
open Go.ChangeShapes Go.WideShapes Go.RowKit Go.Proofs.YtfimakplmkbbjaaW.PrintWords
set_option linter.unusedVariables false
set_option linter.unusedSimpArgs false

/-- What reads as data of type t says, of kind d, something good. -/
def Opens {α : Type} (P : Program) (t : TypeId) (d : Kd α) (good : α → Prop) : Prop :=
  ∀ {H : Type} {enc : TypeId × Value → H} {w : World} {base : Nat} {spare : Nat → Bool} {held : Bool} {fuel : Nat} {cs : List Value} {x : DataW H × List MemPlace},
    DataW.trod enc P w base spare held fuel t cs = some x → (∀ b ∈ DataW.weights P t x.1, b ≤ reachBytes) → ∃ a, d.K w a cs ∧ good a

theorem opens_int {P : Program} {t : TypeId} {k : IntKind} (ht : P.underlying t = some (.int k)) : Opens P t (Kd.int k) (fun n => (Lit.int k n).wf = true) := by
  intro H enc w base spare held fuel cs x h _
  obtain ⟨n, rfl, _, hw⟩ := DataW.trod_int ht h
  exact ⟨n, rfl, hw⟩
theorem opens_bool {P : Program} {t : TypeId} (ht : P.underlying t = some .bool) : Opens P t Kd.bool (fun _ => True) := by
  intro H enc w base spare held fuel cs x h _
  obtain ⟨b, rfl, _⟩ := DataW.trod_bool ht h
  exact ⟨b, rfl, trivial⟩

theorem choose_list {α : Type} (P : Nat → α → Prop) : ∀ n : Nat, (∀ i, i < n → ∃ a, P i a) → ∃ xs : List α, xs.length = n ∧ ∀ i a, xs[i]? = some a → P i a
  | 0, _ => ⟨[], rfl, fun i a h => by simp at h⟩
  | n + 1, h => by
    obtain ⟨xs, hl, hx⟩ := choose_list P n (fun i hi => h i (by omega))
    obtain ⟨a, ha⟩ := h n (by omega)
    refine ⟨xs ++ [a], by simp [hl], fun i b hb => ?_⟩
    rcases Nat.lt_or_ge i n with hi | hi
    · rw [List.getElem?_append_left (by omega)] at hb
      exact hx i b hb
    · rw [List.getElem?_append_right (by omega)] at hb
      have h0 : i - xs.length = 0 := by
        rcases Nat.eq_zero_or_pos (i - xs.length) with h | h
        · exact h
        · rw [List.getElem?_eq_none (by simp; omega)] at hb
          cases hb
      rw [h0] at hb
      simp at hb
      subst hb
      obtain rfl : i = n := by omega
      exact ha

theorem add_add (a : Addr) (m n : Nat) : (a.add m).add n = a.add (m + n) := by
  unfold Addr.add
  by_cases hm : m = 0
  · subst hm
    simp
  · by_cases hn : n = 0
    · subst hn
      simp
    · rw [if_neg hm, if_neg hn, if_neg (by omega)]
      simp [Nat.add_assoc]

theorem weights_all_mem {H : Type} {P : Program} {e : TypeId} : ∀ {ds : List (DataW H)} {d : DataW H}, d ∈ ds → ∀ b ∈ DataW.weights P e d, b ∈ DataW.weightsAll P e ds
  | [], _, h, _, _ => by simp at h
  | d0 :: r, d, h, b, hb => by
    unfold DataW.weightsAll
    rcases List.mem_cons.1 h with rfl | h
    · exact List.mem_append_left _ hb
    · exact List.mem_append_right _ (weights_all_mem h b hb)

theorem opens_slice {α : Type} {P : Program} {t e : TypeId} {d : Kd α} {good : α → Prop} (he : Opens P e d good) (ht : P.underlying t = some (.slice e)) (hc : P.cellsOf e = d.sz) (e' : Nat) {B : Nat} (hB : P.bytesOf e = B) :
    Opens P t (Kd.slice e' d) (fun xs => xs.length * B ≤ reachBytes ∧ ∀ x ∈ xs, good x) := by
  intro H enc w base spare held fuel cs x h hw
  rcases DataW.trod_slice ht h with ⟨rfl, rfl⟩ | ⟨a, len, cap, elems, rest, n, _, rfl, rfl, hb, hl, hm, hlen, hel, _, _⟩
  · exact ⟨[], ⟨none, 0, rfl, Nat.le_refl _, Kd.C_nil _ _⟩, by simp, by simp⟩
  · have hweights : ∀ b ∈ DataW.weights P t (.slice (elems.map (·.1)) (rest.map (·.1)) : DataW H), b ≤ reachBytes := hw
    unfold DataW.weights at hweights
    rw [ht] at hweights
    simp only [List.mem_cons, List.mem_append] at hweights
    obtain ⟨xs, hxl, hx⟩ := choose_list (fun i (a' : α) => good a' ∧ ∃ cs', w.cells? base (a.add (i * P.cellsOf e)) (P.cellsOf e) = some cs' ∧ d.K w a' cs') len (fun i hi => by
      have h1 := hel i hi
      have hil : i < elems.length := by omega
      rw [List.getElem?_eq_getElem hil] at h1
      obtain ⟨cs', hc1, hc2⟩ := Option.bind_eq_some_iff.1 h1
      obtain ⟨a', hk, hg⟩ := he hc2 (fun b hb' => hweights b (.inr (.inl (weights_all_mem (List.mem_map_of_mem (List.getElem_mem hil)) b hb'))))
      exact ⟨a', hg, cs', hc1, hk⟩)
    refine ⟨xs, ⟨some a, cap, by rw [hxl], by omega, rfl, by unfold maxLen at hm; omega, fun _ => ⟨a, rfl, fun j p hj => ?_⟩⟩, ?_, fun p hp => ?_⟩
    · obtain ⟨_, cs', hc1, hk⟩ := hx j p hj
      obtain ⟨_, hcl, hcell⟩ := World.cells?_some hc1
      refine ⟨cs', by rw [hcl, hc], hk, fun i u hu => ?_⟩
      have hi : i < P.cellsOf e := by
        rcases Nat.lt_or_ge i (P.cellsOf e) with h' | h'
        · exact h'
        · rw [List.getElem?_eq_none (by omega)] at hu
          cases hu
      have h2 := hcell i hi
      rw [add_add, hc] at h2
      rw [h2, hu]
    · have h1 := hweights _ (.inl rfl)
      rw [hB] at h1
      simp only [List.length_map] at h1
      rw [hxl, ← hlen]
      exact Nat.le_trans (Nat.mul_le_mul_right _ (Nat.le_add_right _ _)) h1
    · obtain ⟨i, hi, rfl⟩ := List.getElem_of_mem hp
      exact (hx i _ (List.getElem?_eq_getElem hi)).1

/-- The fields of a struct, one behind the other. -/
inductive Flds (P : Program) : List Field → Nat → (β : Type) → Kd β → (β → Prop) → Prop
  | one {β : Type} {f : Field} {o : Nat} {d : Kd β} {g : β → Prop} (h : Opens P f.type d g) (ho : f.offset = o) (hc : P.cellsOf f.type = d.sz) : Flds P [f] o β d g
  | more {β γ : Type} {f : Field} {fs : List Field} {o : Nat} {d : Kd β} {d' : Kd γ} {g : β → Prop} {g' : γ → Prop} (h : Opens P f.type d g) (ho : f.offset = o) (hc : P.cellsOf f.type = d.sz) (r : Flds P fs (o + d.sz) γ d' g') :
      Flds P (f :: fs) o (β × γ) (Kd.pair d d') (fun x => g x.1 ∧ g' x.2)

theorem flds_open {P : Program} {fs : List Field} {o : Nat} {β : Type} {d : Kd β} {g : β → Prop} (h : Flds P fs o β d g) :
    ∀ {H : Type} {enc : TypeId × Value → H} {w : World} {base : Nat} {spare : Nat → Bool} {held : Bool} {n : Nat} {cs : List Value} {xs : List (DataW H × List MemPlace)}, cs.length = o + d.sz → xs.length = fs.length →
      (∀ (i : Nat) (f : Field), fs[i]? = some f → DataW.trod enc P w base spare held n f.type ((cs.drop f.offset).take (P.cellsOf f.type)) = xs[i]?) → (∀ b ∈ DataW.weightsEach P (fs.map (·.type)) (xs.map (·.1)), b ≤ reachBytes) → ∃ a, d.K w a (cs.drop o) ∧ g a := by
  induction h with
  | @one β f o d g h ho hc =>
    intro H enc w base spare held n cs xs hl hx hf hw
    obtain ⟨y, rfl⟩ : ∃ y, xs = [y] := by
      cases xs with
      | nil => simp at hx
      | cons y r =>
        cases r with
        | nil => exact ⟨y, rfl⟩
        | cons _ _ => simp at hx
    have h1 := hf 0 f rfl
    rw [ho, hc, List.take_of_length_le (by rw [List.length_drop]; omega)] at h1
    refine h h1 (fun b hb => hw b ?_)
    simp [DataW.weightsEach, hb]
  | @more β γ f fs o d d' g g' h ho hc r ih =>
    intro H enc w base spare held n cs xs hl hx hf hw
    cases xs with
    | nil => simp at hx
    | cons y ys =>
      have hsz : (Kd.pair d d').sz = d.sz + d'.sz := rfl
      rw [hsz] at hl
      have h1 := hf 0 f rfl
      rw [ho, hc] at h1
      obtain ⟨a, hk, hg⟩ := h h1 (fun b hb => hw b (by simp [DataW.weightsEach, hb]))
      obtain ⟨a', hk', hg'⟩ := ih (cs := cs) (xs := ys) (by omega) (by simpa using hx) (fun i f' hi => hf (i + 1) f' (by simpa using hi)) (fun b hb => hw b (by
        simp only [List.map_cons, DataW.weightsEach]
        exact List.mem_append_right _ hb))
      refine ⟨(a, a'), ⟨_, _, ?_, hk, hk'⟩, hg, hg'⟩
      rw [← List.drop_drop, List.take_append_drop]

theorem opens_struct {P : Program} {t : TypeId} {fs : Array Field} {β : Type} {d : Kd β} {g : β → Prop} (ht : P.underlying t = some (.struct fs)) (hF : Flds P fs.toList 0 β d g) (hc : P.cellsOf t = d.sz) : Opens P t d g := by
  intro H enc w base spare held fuel cs x h hw
  obtain ⟨xs, n, _, rfl, hl, hxl, hf⟩ := DataW.trod_struct ht h
  have hweights : ∀ b ∈ DataW.weights P t (.agg (xs.map (·.1)) : DataW H), b ≤ reachBytes := hw
  unfold DataW.weights at hweights
  rw [ht] at hweights
  have := flds_open hF (H := H) (enc := enc) (w := w) (base := base) (spare := spare) (held := held) (n := n) (cs := cs) (xs := xs) (by omega) (by simpa using hxl) (fun i f hi => hf i f (by simpa using hi)) hweights
  simpa using this

theorem opens_iso {α β : Type} {P : Program} {t : TypeId} {d : Kd α} {g : α → Prop} (h : Opens P t d g) (f : β → α) (f' : α → β) (hff : ∀ a, f (f' a) = a) : Opens P t (Kd.iso d f) (fun b => g (f b)) := by
  intro H enc w base spare held fuel cs x hx hw
  obtain ⟨a, hk, hg⟩ := h hx hw
  exact ⟨f' a, by show d.K w (f (f' a)) cs; rw [hff]; exact hk, by show g (f (f' a)); rw [hff]; exact hg⟩

/-- An argument that is a slice. -/
theorem open_arg {H : Type} {enc : TypeId × Value → H} {α : Type} {P : Program} {W : World} {base r0 : Nat} {r : Reach} {spare : Nat → Bool} {held : Bool} {t e : TypeId} {d : Kd α} {good : α → Prop} {e' B : Nat} (ho : Opens P t (Kd.slice e' d) (fun xs => xs.length * B ≤ reachBytes ∧ ∀ x ∈ xs, good x)) (ht : P.underlying t = some (.slice e))
    {v : Value} (hv : Value.okWide P W r r0 t v) {dd : DataW H} {p : List MemPlace} (h : DataW.Trod enc P W base spare held t v dd p) {ts : List TypeId} {ds : List (DataW H)} (hsz : (DataW.weightsEach P ts ds).all (· ≤ reachBytes) = true) {j : Nat} (hj : ts[j]? = some t) (hd : ds[j]? = some dd) :
    ∃ A c xs, v = .slice A xs.length c ∧ xs.length ≤ c ∧ d.C W A xs.length xs ∧ xs.length * B ≤ reachBytes ∧ ∀ x ∈ xs, good x := by
  obtain ⟨A, len, cap, rfl⟩ := okWide_slice ht hv
  obtain ⟨fuel, hf⟩ := h
  obtain ⟨xs, ⟨A', c', he, hl, hr⟩, h1, h2⟩ := ho hf (fun b hb => by
    have := List.all_eq_true.1 hsz _ (DataW.weights_mem_each hj hd b hb)
    simpa using this)
  simp [Value.cells] at he
  obtain ⟨rfl, rfl, rfl⟩ := he
  exact ⟨A, cap, xs, rfl, hl, hr, h1, h2⟩
/-- An argument that is a struct. -/
theorem open_struct_arg {H : Type} {enc : TypeId × Value → H} {α : Type} {P : Program} {W : World} {base r0 : Nat} {r : Reach} {spare : Nat → Bool} {held : Bool} {t : TypeId} {fs : Array Field} {d : Kd α} {good : α → Prop} (ho : Opens P t d good) (ht : P.underlying t = some (.struct fs))
    {v : Value} (hv : Value.okWide P W r r0 t v) {dd : DataW H} {p : List MemPlace} (h : DataW.Trod enc P W base spare held t v dd p) {ts : List TypeId} {ds : List (DataW H)} (hsz : (DataW.weightsEach P ts ds).all (· ≤ reachBytes) = true) {j : Nat} (hj : ts[j]? = some t) (hd : ds[j]? = some dd) :
    ∃ cs x, v = .agg cs ∧ d.K W x cs.toList ∧ good x := by
  obtain ⟨cs, rfl, _⟩ := okWide_struct ht hv
  obtain ⟨fuel, hf⟩ := h
  obtain ⟨x, hk, hg⟩ := ho hf (fun b hb => by
    have := List.all_eq_true.1 hsz _ (DataW.weights_mem_each hj hd b hb)
    simpa using this)
  refine ⟨cs, x, rfl, ?_, hg⟩
  simpa [Value.cells] using hk
end Go.Proofs.Ytfimakplmkbbjaa.Opn
