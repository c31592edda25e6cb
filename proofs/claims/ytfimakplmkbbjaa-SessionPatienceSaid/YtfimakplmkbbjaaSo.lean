/- slices.Sort of a row of ints of the call's own. -/
import Derived.Test.YtfimakplmkbbjaaPSessionScriptsx0
import Derived.Test.YtfimakplmkbbjaaShf
import Derived.Sort.OwnSortedInts
namespace Go.Proofs.Ytfimakplmkbbjaa.So
open Go.RowKit Go.Sort Go.Proofs.YtfimakplmkbbjaaW.PrintWords
theorem sort_calls (base : Nat) (v : Value) (l : List Int) (w : World) (h : (Kd.int .i64).R 3 w base (fun _ => True) v l) (hl : l.length < 4611686018427387904) :
    Calls Try.prog 29 #[v] w fun e w' => e = .returned (.tuple #[]) ∧ (Kd.int .i64).R 3 w' base (fun _ => True) v (l.mergeSort (fun x y => decide (x ≤ y))) ∧ w.grownBy w' v.ownBlock := by
  have ho := Kd.own_of_R h
  have hlen : (l.mergeSort (fun x y => decide (x ≤ y))).length = l.length := List.length_mergeSort l
  rcases ho.2 with ⟨hv, hn⟩ | ⟨g, cap, cur, hv, hb, hg, h1, h2, h3, h4⟩
  · have he : l = [] := List.eq_nil_of_length_eq_zero hn
    subst hv he
    refine (Try.slices_Sort_int_none none 0 w).mono ?_
    rintro e w' ⟨rfl, rfl⟩
    rw [List.mergeSort_nil]
    exact ⟨rfl, Kd.R_nil _ _ _ _ _, World.grownBy.refl _ _⟩
  · subst hv
    have hH := holds_of_blockI (ss := l) hg (by rw [Nat.mul_one] at h4; exact h4)
    refine (Try.slices_Sort_int g 0 cap l w hH (Array.getElem?_eq_some_iff.1 hg).1 hl).mono ?_
    rintro e w' ⟨rfl, n, os, rfl⟩
    refine ⟨rfl, ?_, grownBy_sortedI _⟩
    have := ownsRow_sortedI (n := n) (os := os) (ts := l.mergeSort (fun x y => decide (x ≤ y))) (ss := l) hlen hb hg h1 h2 h3
    have h5 := Kd.R_of_own (h1 := fun _ => rfl) (enc := Value.int .i64) (ok := fun _ => True) (e := 3) (base := base) (xs := l.mergeSort (fun x y => decide (x ≤ y))) (by rw [hlen]; exact this) (fun _ _ => trivial)
    exact h5
end Go.Proofs.Ytfimakplmkbbjaa.So
