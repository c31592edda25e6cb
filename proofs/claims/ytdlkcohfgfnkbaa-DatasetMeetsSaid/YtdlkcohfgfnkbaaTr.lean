/- Tables: places, rightIds, Right of the program: the walks. -/
import Derived.Test.YtdlkcohfgfnkbaaTp
import Derived.Test.YtdlkcohfgfnkbaaMp
import Derived.Test.YtdlkcohfgfnkbaaIx
namespace Go.Proofs.Ytdlkcohfgfnkbaa.Tr
open Go.RowKit Go.Maps Go.Proofs.Ytdlkcohfgfnkbaa.PDatasetJoins Go.Proofs.Ytdlkcohfgfnkbaa.Tp Go.Proofs.Ytdlkcohfgfnkbaa.Mp Go.Proofs.Ytdlkcohfgfnkbaa.Ix Go.Proofs.YtdlkcohfgfnkbaaW.PrintWords Go.Proofs.YtdlkcohfgfnkbaaW.PrintLast Go.Proofs.YtdlkcohfgfnkbaaW.PrintMore
set_option linter.unusedSimpArgs false
set_option linter.unusedVariables false

theorem one_cell {W : World} {g t : Nat} {x : Value} (h : W.heap[g]? = some (.cells #[x] t (0, 0))) : W.cell? ⟨g, 0, none⟩ = some x := blk_cell h 0
theorem law : Keyed Try.prog 3 := int_keyed Try.underlying3
/-- Where a number stands last. -/
def lastIx : List Int → Int → Option Nat
  | [], _ => none
  | y :: l, x => match lastIx l x with | some j => some (j + 1) | none => if y = x then some 0 else none
theorem lastIx_snoc (l : List Int) (y x : Int) : lastIx (l ++ [y]) x = if x = y then some l.length else lastIx l x := by
  induction l with
  | nil =>
    show (if y = x then some 0 else none) = _
    by_cases h : x = y
    · rw [if_pos h, if_pos h.symm]; rfl
    · rw [if_neg h, if_neg (fun e => h e.symm)]; rfl
  | cons z l ih =>
    show (match lastIx (l ++ [y]) x with | some j => some (j + 1) | none => if z = x then some 0 else none) = _
    rw [ih]
    by_cases h : x = y
    · rw [if_pos h, if_pos h]; rfl
    · rw [if_neg h, if_neg h]; rfl
theorem lastIx_mem (l : List Int) (x : Int) : (lastIx l x).isSome = true ↔ x ∈ l := by
  induction l with
  | nil => simp [lastIx]
  | cons y l ih =>
    unfold lastIx
    rw [List.mem_cons, ← ih]
    cases lastIx l x with
    | some j => simp
    | none =>
      by_cases h : y = x
      · simp [h]
      · simp [h]; exact fun e => h e.symm
/-- What places tells. -/
def plF (l : List Int) (x : Int) : Option Value := (lastIx l x).map (fun j => .int .i64 (j : Int))
theorem plF_snoc (l : List Int) (y : Int) : plF (l ++ [y]) = upd (plF l) y (some (.int .i64 (l.length : Int))) := by
  funext x
  unfold plF upd
  rw [lastIx_snoc]
  split <;> rfl
theorem plF_some (l : List Int) (x : Int) : (plF l x).isSome = (lastIx l x).isSome := by unfold plF; cases lastIx l x <;> rfl
/-- The number of keys, so far as it is asked. -/
def Cnt (l : List Int) (s : Nat) : Prop := s ≤ l.length ∧ (s = l.length ↔ l.Nodup)
theorem Cnt.step {l : List Int} {s : Nat} (h : Cnt l s) (y : Int) : Cnt (l ++ [y]) (if (plF l y).isSome then s else s + 1) := by
  unfold Cnt at *
  rw [plF_some, List.length_append, List.nodup_append]
  simp only [List.length_cons, List.length_nil, Nat.zero_add]
  by_cases hm : y ∈ l
  · rw [if_pos ((lastIx_mem l y).2 hm)]
    exact ⟨by omega, ⟨fun e => by omega, fun e => absurd rfl (e.2.2 y hm y (by simp))⟩⟩
  · rw [if_neg (fun e => hm ((lastIx_mem l y).1 e))]
    refine ⟨by omega, ⟨fun e => ⟨h.2.1 (by omega), by simp, fun a ha b hb => ?_⟩, fun e => by have := h.2.2 e.1; omega⟩⟩
    simp only [List.mem_singleton] at hb
    subst hb
    exact fun e => hm (e ▸ ha)

set_option maxRecDepth 100000 in
set_option maxHeartbeats 400000 in
theorem places_calls (A : Option Addr) (c : Nat) (l : List Int) (w : World) (hr : Kd.C (Kd.int .i64) w A l.length l) (hl : l.length ≤ 140737488351232) (hw : ∀ x ∈ l, I64 x) :
    Calls Try.prog 57 #[.slice A l.length c] w fun e w' => ∃ b s, e = .returned (.map (some b)) ∧ IntMap Try.prog 3 w' b l.length (plF l) s ∧ Cnt l s ∧ w.heap.size ≤ b ∧ Below w.heap.size w w' := by
  have HR := Aside0.mk hr
  have HW := Aside0.mk hw
  have hmm := @run_makeMap Try.prog
  clear hr hw
  go_enter Try.func57, Try.ntmps57
  go_wp2_with fail
  clear hmm
  go_loopg [4, 5, 9] l.length (fun g v4 v5 v9 wx => ∃ (i s : Nat), i + g = l.length ∧ v9 = .int .i64 (i : Int) ∧ Aside0 (IntMap Try.prog 3 wx w.heap.size i (plF (l.take i)) s) ∧ Aside0 (Cnt (l.take i) s) ∧ Aside0 (Below w.heap.size w wx))
  case atStart => exact ⟨0, 0, by omega, rfl, ⟨IntMap.made _ _ _⟩, ⟨⟨Nat.zero_le _, by simp⟩⟩, ⟨below_alloc (Below.refl _ _) _⟩⟩
  case round =>
    obtain ⟨i, s, hig, rfl, HM, HC, HB⟩ := hrel
    cases gk with
    | zero =>
      have hlt : ¬ (i : Int) < (l.length : Int) := by omega
      have hie : i = l.length := by omega
      have HM2 := Aside0.mk (show IntMap Try.prog 3 wr w.heap.size l.length (plF l) s by have := HM.out; rw [hie, List.take_length] at this; exact this)
      have HC2 := Aside0.mk (show Cnt l s by have := HC.out; rw [hie, List.take_length] at this; exact this)
      clear hie
      go_wp2_with fail
      go_ret
      exact ⟨_, rfl, s, HM2.out, HC2.out, Nat.le_refl _, HB.out⟩
    | succ g =>
      have hlt : (i : Int) < (l.length : Int) := by omega
      obtain ⟨ad, rfl, hc⟩ := Kd.at_int (Kd.C_below HR.out HB.out) (i : Int) (by omega) hlt
      rw [Int.toNat_natCast] at hc
      have hd : l.take (i + 1) = l.take i ++ [rd l (i : Int)] := by
        rw [List.take_succ_eq_append_getElem (by omega), rd_get l i (by omega)]
      have hx := HW.out _ (rd_mem l i (by omega))
      obtain ⟨x, hxe⟩ : ∃ x, x = rd l (i : Int) := ⟨_, rfl⟩
      rw [← hxe] at hc hd hx
      have hlen : (l.take i).length = i := by rw [List.length_take]; omega
      have HD := Aside0.mk hd
      have HX := Aside0.mk hx
      have HL := Aside0.mk hlen
      clear hxe hd hx hlen
      go_wp2_with (at_mapUpdate; refine wp_store law Try.underlying3 Try.underlying67 HM.out (by unfold maxLen; omega) rfl (.tmp 14) (.tmp 15) (.tmp 16) rfl rfl x (.int .i64 (i : Int)) rfl rfl HX.out ?_; intro w1 hm1 hg1; have HM1 := Aside0.mk hm1; have HG1 := Aside0.mk hg1; clear hm1 hg1)
      go_roundg g
      case measure => omega
      case rel =>
        refine ⟨i + 1, _, by omega, rfl, ⟨?_⟩, ⟨HD.out ▸ HC.out.step x⟩, ⟨?_⟩⟩
        · rw [HD.out, plF_snoc, HL.out]
          exact HM1.out
        · exact pw_below_grown HB.out _ HB.out.size HG1.out (fun k hk => by cases hk; exact Nat.le_refl _)

def oddB (x : Int) : Bool := decide (x < 0) || decide (x > 1073741824)
theorem pred66 (w : World) : Pred 66 #[] w oddB where
  enter := fun args w => by go_simp
  calls := fun x => by
    show Calls Try.prog 66 #[.int .i64 x] w _
    by_cases h : x < 0
    · go_enter Try.func66, Try.ntmps66
      go_wp2
      go_ret
      exact ⟨by unfold oddB; rw [decide_eq_true h]; rfl, rfl⟩
    · go_enter Try.func66, Try.ntmps66
      go_wp2
      go_ret
      exact ⟨by unfold oddB; rw [decide_eq_false (Int.not_lt.2 h)]; rfl, rfl⟩
theorem odd_none {l : List Int} : l.any oddB = false ↔ ∀ x ∈ l, 0 ≤ x ∧ x ≤ 1073741824 := by
  rw [List.any_eq_false]
  constructor
  · intro h x hx
    have := h x hx
    unfold oddB at this
    simp only [Bool.or_eq_true, decide_eq_true_eq] at this
    omega
  · intro h x hx
    have := h x hx
    unfold oddB
    simp only [Bool.or_eq_true, decide_eq_true_eq]
    omega
set_option maxRecDepth 100000 in
set_option maxHeartbeats 400000 in
theorem rightIds_calls (A : Option Addr) (c : Nat) (l : List Int) (w : World) (hr : Kd.C (Kd.int .i64) w A l.length l) (hl : l.length ≤ 140737488351232) :
    Calls Try.prog 52 #[.slice A l.length c] w fun e w' => e = .returned (.bool (idsB l)) ∧ Below w.heap.size w w' := by
  have HR := Aside0.mk hr
  clear hr
  by_cases h1 : (l.length : Int) ≤ 256
  · cases h2 : l.any oddB with
    | true =>
      have H2 := Aside0.mk h2
      clear h2
      go_enter Try.func52, Try.ntmps52
      go_wp2_with fail
      refine (contains_calls 66 #[] oddB A c l _ HR.out hl (pred66 _)).mono ?_
      rintro e w1 ⟨rfl, rfl⟩
      rw [H2.out]
      go_wp2_with fail
      go_ret
      refine ⟨?_, Below.refl _ _⟩
      rw [show idsB l = false from decide_eq_false (fun h => by rw [odd_none.2 h.2.1] at H2; cases H2.out)]
      rfl
    | false =>
      have H2 := Aside0.mk h2
      have HI := Aside0.mk (show ∀ x ∈ l, I64 x from fun x hx => by have := odd_none.1 h2 x hx; exact I64.mk (by omega) (by omega))
      clear h2
      go_enter Try.func52, Try.ntmps52
      go_wp2_with fail
      refine (contains_calls 66 #[] oddB A c l _ HR.out hl (pred66 _)).mono ?_
      rintro e w1 ⟨rfl, rfl⟩
      rw [H2.out]
      go_wp2_with fail
      refine (places_calls A c l _ HR.out hl HI.out).mono ?_
      rintro e w2 ⟨b, s, rfl, hm, hc, hbs, hb⟩
      have HC := Aside0.mk hc
      have HM := Aside0.mk hm
      have HB := Aside0.mk hb
      clear hc hm hb
      by_cases hs : s = l.length
      · have hsb : ((s : Int) == (l.length : Int)) = true := by rw [hs]; simp
        have hs2 : (s : Int) = (l.length : Int) := by omega
        have HS := Aside0.mk hs
        clear hs
        have hlen := run_len Try.underlying67 HM.out 3
        go_wp2_with fail
        go_ret
        refine ⟨?_, HB.out⟩
        rw [show idsB l = true from decide_eq_true ⟨by omega, odd_none.1 H2.out, HC.out.2.1 HS.out⟩]
        rfl
      · have hsb : ((s : Int) == (l.length : Int)) = false := by rw [beq_eq_false_iff_ne]; omega
        have HS := Aside0.mk hs
        clear hs
        have hlen := run_len Try.underlying67 HM.out 3
        go_wp2_with fail
        go_ret
        refine ⟨?_, HB.out⟩
        rw [show idsB l = false from decide_eq_false (fun h => HS.out (HC.out.2.2 h.2.2))]
        rfl
  · go_enter Try.func52, Try.ntmps52
    go_wp2_with fail
    go_ret
    refine ⟨?_, Below.refl _ _⟩
    rw [show idsB l = false from decide_eq_false (fun h => by omega)]
    rfl
end Go.Proofs.Ytdlkcohfgfnkbaa.Tr
