/- Sessions: both News walked; the two sessions side by side; one act. -/
import Derived.Test.YtfimakplmkbbjaaSa
import Derived.Test.YtfimakplmkbbjaaSh
import Derived.Test.YtfimakplmkbbjaaSy
namespace Go.Proofs.Ytfimakplmkbbjaa.Sn
open Go.RowKit Go.Maps Go.Proofs.Ytfimakplmkbbjaa.Mp Go.Proofs.Ytfimakplmkbbjaa.Mq Go.Proofs.Ytfimakplmkbbjaa.Sp Go.Proofs.Ytfimakplmkbbjaa.Sx Go.Proofs.YtfimakplmkbbjaaW.PrintWords Go.Proofs.YtfimakplmkbbjaaW.PrintLast Go.Proofs.YtfimakplmkbbjaaW.PrintMore
set_option linter.unusedVariables false
set_option linter.unusedSimpArgs false

theorem size_al (w : World) (o : Obj) : (w.alloc o).heap.size = w.heap.size + 1 := Array.size_push _
def okNew (s n t : Int) : Prop := 2 ≤ n ∧ n ≤ 16 ∧ 0 ≤ s ∧ s < n ∧ 1 ≤ t ∧ t ≤ 1073741824
instance (s n t : Int) : Decidable (okNew s n t) := by unfold okNew; infer_instance
def newS (s n t : Int) : St := ⟨s, n, t, 0, 0, 0, fun _ => none⟩
theorem newInv {s n t : Int} (h : okNew s n t) : Inv (newS s n t) := by
  obtain ⟨h1, h2, h3, h4, h5, h6⟩ := h
  exact ⟨h1, h2, h3, h4, h5, h6, Int.le_refl _, (by decide : (0 : Int) ≤ 1073741824), fun x y e => (nomatch e), fun h => absurd rfl h⟩
set_option maxRecDepth 100000 in
set_option maxHeartbeats 1000000 in
theorem new_calls (s n t : Int) (w : World) : Calls Try.prog 6 #[.int .i64 s, .int .i64 n, .int .i64 t] w fun e w' =>
    if okNew s n t then e = .returned (.tuple #[.pointer (some ⟨w.heap.size + 1, 0, none⟩), .int .i64 0]) ∧ (∀ B ok, PS w' B 0 (w.heap.size + 1) w.heap.size ok (newS s n t)) ∧ Below w.heap.size w w' ∧ w'.heap.size = w.heap.size + 2
    else e = .returned (.tuple #[.pointer none, .int .i64 1]) ∧ Below w.heap.size w w' := by
  obtain ⟨Q, hQ⟩ : ∃ Q : Ending → World → Prop, Q = fun e w' => if okNew s n t then e = .returned (.tuple #[.pointer (some ⟨w.heap.size + 1, 0, none⟩), .int .i64 0]) ∧ (∀ B ok, PS w' B 0 (w.heap.size + 1) w.heap.size ok (newS s n t)) ∧ Below w.heap.size w w' ∧ w'.heap.size = w.heap.size + 2 else e = .returned (.tuple #[.pointer none, .int .i64 1]) ∧ Below w.heap.size w w' := ⟨_, rfl⟩
  rw [← hQ]
  have hneg : ¬ okNew s n t → Q (.returned (.tuple #[.pointer none, .int .i64 1])) w := fun h => by rw [hQ]; show (if okNew s n t then _ else _); rw [if_neg h]; exact ⟨rfl, Below.refl _ _⟩
  have HNEG := Aside0.mk hneg
  have HQ := Aside0.mk hQ
  have hmm := @run_makeMap Try.prog
  clear hneg hQ
  by_cases h1 : n < 2
  · go_enter Try.func6, Try.ntmps6
    go_wp2_with fail
    exact HNEG.out (fun h => by unfold okNew at h; omega)
  by_cases h2 : n > 16
  · go_enter Try.func6, Try.ntmps6
    go_wp2_with fail
    exact HNEG.out (fun h => by unfold okNew at h; omega)
  by_cases h3 : s < 0
  · go_enter Try.func6, Try.ntmps6
    go_wp2_with fail
    exact HNEG.out (fun h => by unfold okNew at h; omega)
  by_cases h4 : s ≥ n
  · go_enter Try.func6, Try.ntmps6
    go_wp2_with fail
    exact HNEG.out (fun h => by unfold okNew at h; omega)
  by_cases h5 : t < 1
  · go_enter Try.func6, Try.ntmps6
    go_wp2_with fail
    exact HNEG.out (fun h => by unfold okNew at h; omega)
  by_cases h6 : t > 1073741824
  · go_enter Try.func6, Try.ntmps6
    go_wp2_with fail
    exact HNEG.out (fun h => by unfold okNew at h; omega)
  have HOK := Aside0.mk (show okNew s n t from ⟨by omega, by omega, by omega, by omega, by omega, by omega⟩)
  go_enter Try.func6, Try.ntmps6
  go_wp2_with fail
  rw [HQ.out]
  show (if okNew s n t then _ else _)
  rw [if_pos HOK.out]
  have hsz : (w.alloc (.map #[] 0)).heap.size = w.heap.size + 1 := size_al _ _
  refine ⟨?_, fun B ok => ⟨?_, 0, _, 0, Nat.le_refl _, (IntMap.made Try.prog 3 w).alloc _, fun x _ => rfl⟩, ?_, ?_⟩
  · first | rfl | simp
  · have := blk_new (w.alloc (.map #[] 0)) (.cells (cellsP (newS s n t) w.heap.size) 51)
    rw [hsz] at this
    exact this
  · exact below_alloc (below_alloc (Below.refl _ _) _) _
  · rw [size_al, size_al]
def zeroWaits : List Value := [.bool false, .int .i64 0, .slice none 0 0]
set_option maxRecDepth 100000 in
set_option maxHeartbeats 1000000 in
theorem ref_new_calls (s n t : Int) (w : World) : Calls Try.prog 7 #[.int .i64 s, .int .i64 n, .int .i64 t] w fun e w' =>
    if okNew s n t then e = .returned (.tuple #[.pointer (some ⟨w.heap.size, 0, none⟩), .int .i64 0]) ∧ (∀ B ok, Sr.RS w' B w.heap.size ok (newS s n t)) ∧ Below w.heap.size w w' ∧ w'.heap.size = w.heap.size + 1
    else e = .returned (.tuple #[.pointer none, .int .i64 1]) ∧ Below w.heap.size w w' := by
  obtain ⟨Q, hQ⟩ : ∃ Q : Ending → World → Prop, Q = fun e w' => if okNew s n t then e = .returned (.tuple #[.pointer (some ⟨w.heap.size, 0, none⟩), .int .i64 0]) ∧ (∀ B ok, Sr.RS w' B w.heap.size ok (newS s n t)) ∧ Below w.heap.size w w' ∧ w'.heap.size = w.heap.size + 1 else e = .returned (.tuple #[.pointer none, .int .i64 1]) ∧ Below w.heap.size w w' := ⟨_, rfl⟩
  rw [← hQ]
  have hneg : ¬ okNew s n t → Q (.returned (.tuple #[.pointer none, .int .i64 1])) w := fun h => by rw [hQ]; show (if okNew s n t then _ else _); rw [if_neg h]; exact ⟨rfl, Below.refl _ _⟩
  have HNEG := Aside0.mk hneg
  have HQ := Aside0.mk hQ
  clear hneg hQ
  by_cases h1 : n < 2
  · go_enter Try.func7, Try.ntmps7
    go_wp2_with fail
    exact HNEG.out (fun h => by unfold okNew at h; omega)
  by_cases h2 : n > 16
  · go_enter Try.func7, Try.ntmps7
    go_wp2_with fail
    exact HNEG.out (fun h => by unfold okNew at h; omega)
  by_cases h3 : s < 0
  · go_enter Try.func7, Try.ntmps7
    go_wp2_with fail
    exact HNEG.out (fun h => by unfold okNew at h; omega)
  by_cases h4 : s ≥ n
  · go_enter Try.func7, Try.ntmps7
    go_wp2_with fail
    exact HNEG.out (fun h => by unfold okNew at h; omega)
  by_cases h5 : t < 1
  · go_enter Try.func7, Try.ntmps7
    go_wp2_with fail
    exact HNEG.out (fun h => by unfold okNew at h; omega)
  by_cases h6 : t > 1073741824
  · go_enter Try.func7, Try.ntmps7
    go_wp2_with fail
    exact HNEG.out (fun h => by unfold okNew at h; omega)
  have HOK := Aside0.mk (show okNew s n t from ⟨by omega, by omega, by omega, by omega, by omega, by omega⟩)
  go_enter Try.func7, Try.ntmps7
  go_wp2_with fail
  rw [HQ.out]
  show (if okNew s n t then _ else _)
  rw [if_pos HOK.out]
  refine ⟨rfl, fun B ok => ⟨_, blk_new w _, rfl, rfl, rfl, rfl, rfl, rfl, rfl, fun _ i hi => ?_⟩, below_alloc (Below.refl _ _) _, size_al _ _⟩
  have : i = 0 ∨ i = 1 ∨ i = 2 ∨ i = 3 ∨ i = 4 ∨ i = 5 ∨ i = 6 ∨ i = 7 ∨ i = 8 ∨ i = 9 ∨ i = 10 ∨ i = 11 ∨ i = 12 ∨ i = 13 ∨ i = 14 ∨ i = 15 := by omega
  rcases this with rfl | rfl | rfl | rfl | rfl | rfl | rfl | rfl | rfl | rfl | rfl | rfl | rfl | rfl | rfl | rfl <;> exact ⟨rfl, rfl, _, rfl, Kd.R_nil _ _ _ _ _⟩
end Go.Proofs.Ytfimakplmkbbjaa.Sn
