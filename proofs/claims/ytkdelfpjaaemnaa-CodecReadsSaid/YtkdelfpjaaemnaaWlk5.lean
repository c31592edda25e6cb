/- CodecReads: the law's Go function answers true at every input. -/
import Derived.Test.YtkdelfpjaaemnaaNx3
import Derived.Test.YtkdelfpjaaemnaaWlk4
import Derived.Test.YtkdelfpjaaemnaaOpn
namespace Go.Proofs.Ytkdelfpjaaemnaa.Rd
set_option linter.unusedSimpArgs false
set_option linter.unusedVariables false
open Go.RowKit Go.Proofs.Ytkdelfpjaaemnaa.Rf Go.Proofs.Ytkdelfpjaaemnaa.Fns Go.Proofs.Ytkdelfpjaaemnaa.Plain Go.Proofs.YtkdelfpjaaemnaaW.PrintWords Go.Proofs.YtkdelfpjaaemnaaW.PrintLast Go.Proofs.YtkdelfpjaaemnaaW.PrintMore

/-- A reading that is asked for: two whole numbers. -/
def askK : Kd (Int × Int) := Kd.pair (Kd.int .i64) (Kd.int .i64)
theorem ask_cells {w : World} {A : Option Addr} {n : Nat} {l : List (Int × Int)} (h : askK.C w A n l) (k : Nat) (hk : k < n) :
    ∃ ad x, A = some ad ∧ l[k]? = some x ∧ w.cell? (ad.add (k * 2)) = some (.int .i64 x.1) ∧ w.cell? ⟨(ad.add (k * 2)).block, (ad.add (k * 2)).off + 1, none⟩ = some (.int .i64 x.2) := by
  obtain ⟨ad, e, hc⟩ := h.2.2 (by omega)
  have hl : k < l.length := by have := h.1; omega
  obtain ⟨c, hs, ⟨c0, c1, rfl, h0, h1⟩, hcell⟩ := hc k _ (List.getElem?_eq_getElem hl)
  have h0' : c0 = [.int .i64 (l[k]).1] := h0
  have h1' : c1 = [.int .i64 (l[k]).2] := h1
  subst h0' h1'
  refine ⟨ad, l[k], e, List.getElem?_eq_getElem hl, hcell 0 _ rfl, ?_⟩
  have := hcell 1 (.int .i64 (l[k]).2) rfl
  rw [← add_field ad (k * 2) 1 (by omega)]
  exact this

/-- Two readers side by side, over the same bytes. -/
structure Both (w w0 W : World) (g h : Nat) (xs : List Int) (a b : Nat) : Prop where
  rd : IsRd w0 W g (xs.drop a)
  rf : IsS40 w W h xs (b : Int)
  b0 : Below w0.heap.size w0 W
  bw : Below w.heap.size w W
  ne : g ≠ h
  hi : w0.heap.size ≤ h
  lo : w.heap.size ≤ w0.heap.size

theorem Both.one {w w0 W W' : World} {g h : Nat} {xs : List Int} {a b a' : Nat} (H : Aside0 (Both w w0 W g h xs a b)) (hI : IsRd w0 W' g (xs.drop a')) (hB : Below w0.heap.size w0 W') (hK : KeepBut W W' g none) : Aside0 (Both w w0 W' g h xs a' b) :=
  ⟨{ rd := hI, rf := IsS40.same H.out.rf (hK.2 h H.out.rf.lt (Ne.symm H.out.ne) (by simp)), b0 := hB, bw := below_of_keep H.out.bw hK (Nat.le_trans H.out.lo H.out.rd.ge) H.out.b0 hB, ne := H.out.ne, hi := H.out.hi, lo := H.out.lo }⟩
theorem Both.two {w w0 W W' : World} {g h : Nat} {xs : List Int} {a b b' : Nat} (H : Aside0 (Both w w0 W g h xs a b)) (hI : IsS40 w W' h xs (b' : Int)) (hB : Below w.heap.size w W') (hK : KeepBut W W' h none) : Aside0 (Both w w0 W' g h xs a b') :=
  ⟨{ rd := H.out.rd.same (hK.2 g H.out.rd.lt H.out.ne (by simp)), rf := hI, b0 := below_of_keep H.out.b0 hK H.out.hi H.out.bw hB, bw := hB, ne := H.out.ne, hi := H.out.hi, lo := H.out.lo }⟩

/-- What is left, as the document's reader tells it. -/
theorem ref_left (xs : List Int) (hl : xs.length ≤ 140737488351232) (a : Nat) (ha : a ≤ xs.length) : windbreakref09_Reader_Left.f xs (a : Int) = some (((xs.drop a).length : Int), (a : Int)) := by
  unfold windbreakref09_Reader_Left.f
  have e : wrap64 ((xs.length : Int) - (a : Int)) = ((xs.drop a).length : Int) := by rw [List.length_drop]; unfold wrap64; omega
  rw [e]

theorem row_kept {w0 W W' : World} {h : Nat} {xs r : List Int} {b : Int} {base : Nat} {v : Value} (ho : (Kd.int .u8).R 5 W base (fun _ => True) v r) (hI : IsS40 w0 W h xs b) (hK : KeepBut W W' h none) : (Kd.int .u8).R 5 W' base (fun k => True ∧ k ≠ h) v r := by
  obtain ⟨A, c, hb, _, _⟩ := hI
  refine Kd.R_keep (Kd.R_types ho hb ?_) hK (fun k hk => hk.2)
  intro q hq
  simp [Kd.int, Kd.scalar] at hq
  subst hq
  decide

/-- Bytes: both readers. -/
theorem ref_bytes (xs : List Int) (hb : ∀ c ∈ xs, 0 ≤ c ∧ c < 256) (hlen : xs.length ≤ 140737488355328) (a : Nat) (hat : a ≤ xs.length) (most : Int) (hmost : most < 9223372036854775808) (w0 : World) (h : Nat) :
    ∃ x e a', a' ≤ xs.length ∧ rByt most (xs.drop a) = (x, e, xs.drop a') ∧ ∀ W, IsS40 w0 W h xs (a : Int) → Below w0.heap.size w0 W →
      Calls Try.prog 23 #[.pointer (some ⟨h, 0, none⟩), .int .i64 most] W fun e' w' => ∃ v, e' = .returned (.tuple #[v, .int .i64 e]) ∧ (Kd.int .u8).R 5 w' W.heap.size (fun _ => True) v x ∧ IsS40 w0 w' h xs (a' : Int) ∧ Below w0.heap.size w0 w' ∧ KeepBut W w' h none := by
  have hn := ref_next xs hb (by omega) a hat
  have hle := nx_le (xs.drop a) 0 0
  have hr := nx_range (xs.drop a) 0 0
  simp only [List.length_drop] at hle
  unfold rByt
  obtain ⟨n', m, hx⟩ : ∃ n m, nx 0 0 (xs.drop a) = (n, m) := ⟨_, _, rfl⟩
  rw [hx] at hn hle hr ⊢
  simp only at hr hle hn
  obtain ⟨n, rfl⟩ := Int.eq_ofNat_of_zero_le hr.1
  have no : ∀ W, (m = 0 ∨ most < 0 ∨ (0 ≤ most ∧ IntKind.u64.wrap most = most ∧ most < (n : Int)) ∨ (0 ≤ most ∧ (n : Int) ≤ IntKind.u64.wrap most ∧ (xs.length : Int) - (a : Int) - (m : Int) < (n : Int))) → IsS40 w0 W h xs (a : Int) → Below w0.heap.size w0 W →
      Calls Try.prog 23 #[.pointer (some ⟨h, 0, none⟩), .int .i64 most] W fun e' w' => ∃ v, e' = .returned (.tuple #[v, .int .i64 13]) ∧ (Kd.int .u8).R 5 w' W.heap.size (fun _ => True) v [] ∧ IsS40 w0 w' h xs (a : Int) ∧ Below w0.heap.size w0 w' ∧ KeepBut W w' h none := by
    intro W hc hI hB
    refine (fbytes_no h xs a n m most w0 W hI hB hlen (by omega) hn hc).mono ?_
    rintro e w' ⟨rfl, h1, h2, h3⟩
    exact ⟨_, rfl, Kd.R_nil _ _ _ _ _, h1, h2, h3⟩
  by_cases h0 : m = 0
  · exact ⟨[], 13, a, hat, by rw [if_pos (.inl h0)], fun W => no W (.inl h0)⟩
  · by_cases h1 : most < 0
    · exact ⟨[], 13, a, hat, by rw [if_pos (.inr (.inl h1))], fun W => no W (.inr (.inl h1))⟩
    · have hw : IntKind.u64.wrap most = most := by rw [IntKind.wrap_u64]; omega
      by_cases h2 : most < (n : Int)
      · exact ⟨[], 13, a, hat, by rw [if_pos (.inr (.inr (.inl h2)))], fun W => no W (.inr (.inr (.inl ⟨by omega, hw, h2⟩)))⟩
      · by_cases h3 : (xs.length : Int) - (a : Int) - (m : Int) < (n : Int)
        · exact ⟨[], 13, a, hat, by rw [if_pos (.inr (.inr (.inr (by rw [List.length_drop]; omega))))], fun W => no W (.inr (.inr (.inr ⟨by omega, by rw [hw]; omega, h3⟩)))⟩
        · obtain ⟨M, rfl⟩ := Int.eq_ofNat_of_zero_le (show 0 ≤ most by omega)
          have hc : ¬ (m = 0 ∨ (M : Int) < 0 ∨ (M : Int) < (n : Int) ∨ ((xs.drop a).length : Int) - (m : Int) < (n : Int)) := by rw [List.length_drop]; omega
          refine ⟨(xs.drop (a + m)).take n, 0, a + m + n, by omega, ?_, fun W hI hB => fbytes_yes h xs a n m M w0 W hI hB hlen hn (by omega) hw (by omega) (by omega)⟩
          rw [if_neg hc, drop_at, Int.toNat_natCast, drop_at, Nat.add_assoc]

set_option maxRecDepth 100000 in
set_option maxHeartbeats 1600000 in
theorem reads_calls (A : Option Addr) (c : Nat) (xs : List Int) (A2 : Option Addr) (c2 : Nat) (l : List (Int × Int)) (w : World) (hr : (Kd.int .u8).C w A xs.length xs) (hc : xs.length ≤ c) (hl : xs.length ≤ 140737488351232) (hb : ∀ x ∈ xs, 0 ≤ x ∧ x < 256)
    (hr2 : askK.C w A2 l.length l) (hl2 : l.length ≤ 140737488351232) (hw2 : ∀ x ∈ l, x.2 < 9223372036854775808) :
    Calls Try.prog 8 #[.slice A xs.length c, .slice A2 l.length c2] w fun e w' => e = .returned (.bool true) ∧ Below w.heap.size w w' := by
  have HR := Aside0.mk hr
  have HR2 := Aside0.mk hr2
  have HB := Aside0.mk hb
  have HW2 := Aside0.mk hw2
  clear hr hr2 hb hw2
  go_enter Try.func8, Try.ntmps8
  go_wp2_with fail
  refine (new_calls A c xs _ HR.out (by omega)).mono ?_
  rintro e w1 ⟨g, w0, rfl, hI, hB0, hBw, hB1⟩
  have HI := Aside0.mk hI
  have HB0 := Aside0.mk hB0
  have HBw := Aside0.mk hBw
  have HB1 := Aside0.mk hB1
  clear hI hB0 hB1 hBw
  go_wp2_with fail
  obtain ⟨h, hh⟩ : ∃ h, h = w1.heap.size := ⟨_, rfl⟩
  have HH := Aside0.mk hh
  have HBoth : Aside0 (Both w w0 (w1.alloc (.cells #[.slice A xs.length c, .int .i64 0] 40)) g w1.heap.size xs 0 0) := ⟨{
    rd := by rw [List.drop_zero]; exact HI.out.same (Below.heap_alloc w1 _ g HI.out.lt)
    rf := IsS40.new w w1 A c xs 0 HB1.out HR.out hc
    b0 := below_alloc HB0.out _
    bw := below_alloc HB1.out _
    ne := Nat.ne_of_lt HI.out.lt
    hi := HB0.out.size
    lo := HBw.out.size }⟩
  have hg1 : g < w1.heap.size := HI.out.lt
  rw [← hh] at HBoth ⊢
  generalize w1.alloc (.cells #[.slice A xs.length c, .int .i64 0] 40) = W1 at HBoth ⊢
  clear hh hg1
  go_loopw [7] (fun i wr => ∃ k a : Nat, k ≤ l.length ∧ i = .int .i64 k ∧ a ≤ xs.length ∧ Aside0 (Both w w0 wr g h xs a a)) (fun i _ => l.length - (intOf i).toNat)
  case atStart => exact ⟨0, 0, Nat.zero_le _, rfl, Nat.zero_le _, HBoth⟩
  case round =>
    clear HBoth
    obtain ⟨k, a, hk, rfl, hale, HBoth⟩ := hrel
    by_cases hgo : k < l.length ∧ k < 100
    · obtain ⟨hlt, h100⟩ := hgo
      obtain ⟨ad, y, rfl, hy, hc0w, hc1w⟩ := ask_cells HR2.out k hlt
      have HY := Aside0.mk hy
      have hmem : y ∈ l := List.mem_of_getElem? hy
      have HM := Aside0.mk (HW2.out y hmem)
      clear hy hmem
      obtain ⟨dO, mO⟩ := y
      have HC0 := Aside0.mk hc0w
      have HC1 := Aside0.mk hc1w
      clear hc0w hc1w
      have hc0 := pw_cell_below HBoth.out.bw HC0.out
      have hc1 := pw_cell_below HBoth.out.bw HC1.out
      by_cases h0 : Go.bits .and .i64 dO 3 = 0
      · have h0b : (Go.bits .and .i64 dO 3 == 0) = true := by simp [h0]
        clear h0
        obtain ⟨x, er, a', hale', hrn, hrf⟩ := ref_number xs HB.out (by omega) a hale (IntKind.u64.wrap mO)
        have HRF := Aside0.mk hrf
        have HRN := Aside0.mk hrn
        clear hrf hrn
        go_wp2_with fail
        refine (rnumber_calls g (xs.drop a) w0 _ HBoth.out.rd HBoth.out.b0 _ _ _ _ HRN.out).mono ?_
        rintro e w2 ⟨rfl, hI2, hB2, hK2⟩
        have HBoth := Both.one HBoth hI2 hB2 hK2
        clear hI2 hB2 hK2 hc0 hc1
        have hc0 := pw_cell_below HBoth.out.bw HC0.out
        have hc1 := pw_cell_below HBoth.out.bw HC1.out
        go_wp2_with fail
        refine (windbreakref09_Reader_Number.calls 32 h xs (a : Int) _ _ _ _ w _ HBoth.out.rf HBoth.out.bw HRF.out).mono ?_
        rintro e w3 ⟨rfl, hI3, hB3, hK3⟩
        have HBoth := Both.two HBoth hI3 hB3 hK3
        clear hI3 hB3 hK3 hc0 hc1
        go_wp2_with fail
        refine (left_calls g (xs.drop a') w0 _ HBoth.out.rd).mono ?_
        rintro e w4 ⟨rfl, rfl⟩
        go_wp2_with fail
        refine (windbreakref09_Reader_Left.calls h xs (a' : Int) _ _ w _ HBoth.out.rf HBoth.out.bw (ref_left xs hl a' hale')).mono ?_
        rintro e w5 ⟨rfl, hI5, hB5, hK5⟩
        have HBoth := Both.two HBoth hI5 hB5 hK5
        clear hI5 hB5 hK5
        go_wp2_with fail
        go_roundw
        case rel => exact ⟨k + 1, a', by omega, by go_num, hale', HBoth⟩
        case measure => simp [intOf]; omega
      · have h0b : (Go.bits .and .i64 dO 3 == 0) = false := by simp [h0]
        clear h0
        by_cases h1 : Go.bits .and .i64 dO 3 = 1
        · have h1b : (Go.bits .and .i64 dO 3 == 1) = true := by simp [h1]
          clear h1
          obtain ⟨x, er, a', hale', hrn, hrf⟩ := ref_int xs HB.out (by omega) a hale mO
          have HRF := Aside0.mk hrf
          have HRN := Aside0.mk hrn
          clear hrf hrn
          go_wp2_with fail
          refine (rint_calls g (xs.drop a) w0 _ HBoth.out.rd HBoth.out.b0 _ _ _ _ HRN.out).mono ?_
          rintro e w2 ⟨rfl, hI2, hB2, hK2⟩
          have HBoth := Both.one HBoth hI2 hB2 hK2
          clear hI2 hB2 hK2 hc0 hc1
          have hc0 := pw_cell_below HBoth.out.bw HC0.out
          have hc1 := pw_cell_below HBoth.out.bw HC1.out
          go_wp2_with fail
          refine (windbreakref09_Reader_Int.calls 32 h xs (a : Int) _ _ _ _ w _ HBoth.out.rf HBoth.out.bw HRF.out).mono ?_
          rintro e w3 ⟨rfl, hI3, hB3, hK3⟩
          have HBoth := Both.two HBoth hI3 hB3 hK3
          clear hI3 hB3 hK3 hc0 hc1
          go_wp2_with fail
          refine (left_calls g (xs.drop a') w0 _ HBoth.out.rd).mono ?_
          rintro e w4 ⟨rfl, rfl⟩
          go_wp2_with fail
          refine (windbreakref09_Reader_Left.calls h xs (a' : Int) _ _ w _ HBoth.out.rf HBoth.out.bw (ref_left xs hl a' hale')).mono ?_
          rintro e w5 ⟨rfl, hI5, hB5, hK5⟩
          have HBoth := Both.two HBoth hI5 hB5 hK5
          clear hI5 hB5 hK5
          go_wp2_with fail
          go_roundw
          case rel => exact ⟨k + 1, a', by omega, by go_num, hale', HBoth⟩
          case measure => simp [intOf]; omega
        · have h1b : (Go.bits .and .i64 dO 3 == 1) = false := by simp [h1]
          clear h1
          obtain ⟨x, er, a', hale', hrn, hrf⟩ := ref_bytes xs HB.out (by omega) a hale mO HM.out w h
          have HRF := Aside0.mk hrf
          have HRN := Aside0.mk hrn
          clear hrf hrn
          have hdl : (xs.drop a).length ≤ 140737488355328 := by rw [List.length_drop]; omega
          have HDL := Aside0.mk hdl
          clear hdl
          go_wp2_with fail
          refine (rbytes_calls g (xs.drop a) w0 _ HBoth.out.rd HBoth.out.b0 _ HDL.out HM.out _ _ _ HRN.out).mono ?_
          rintro e w2 ⟨v2, rfl, ho2, hI2, hB2, hK2⟩
          have HBoth := Both.one HBoth hI2 hB2 hK2
          have HO2 := Aside0.mk ho2
          clear hI2 hB2 hK2 hc0 hc1 ho2
          have hc0 := pw_cell_below HBoth.out.bw HC0.out
          have hc1 := pw_cell_below HBoth.out.bw HC1.out
          go_wp2_with fail
          refine (HRF.out _ HBoth.out.rf HBoth.out.bw).mono ?_
          rintro e w3 ⟨v3, rfl, ho3, hI3, hB3, hK3⟩
          have hcv3 := own_string (P := Try.prog) Try.underlying23 Try.underlying5 Try.underlying9 (Kd.own_of_R ho3)
          have hcv2 := own_string (P := Try.prog) Try.underlying23 Try.underlying5 Try.underlying9 (Kd.own_of_R (row_kept HO2.out HBoth.out.rf hK3))
          have HBoth := Both.two HBoth hI3 hB3 hK3
          clear hI3 hB3 hK3 hc0 hc1 ho3
          go_wp2_with fail
          refine (left_calls g (xs.drop a') w0 _ HBoth.out.rd).mono ?_
          rintro e w4 ⟨rfl, rfl⟩
          go_wp2_with fail
          refine (windbreakref09_Reader_Left.calls h xs (a' : Int) _ _ w _ HBoth.out.rf HBoth.out.bw (ref_left xs hl a' hale')).mono ?_
          rintro e w5 ⟨rfl, hI5, hB5, hK5⟩
          have HBoth := Both.two HBoth hI5 hB5 hK5
          clear hI5 hB5 hK5
          go_wp2_with fail
          go_roundw
          case rel => exact ⟨k + 1, a', by omega, by go_num, hale', HBoth⟩
          case measure => simp [intOf]; omega
    · have hstop : ¬ (k < l.length ∧ k < 100) := hgo
      clear hgo
      by_cases hlt : k < l.length
      · have h100 : ¬ k < 100 := fun h => hstop ⟨hlt, h⟩
        clear hstop
        go_wp2_with fail
        refine (left_calls g (xs.drop a) w0 _ HBoth.out.rd).mono ?_
        rintro e w4 ⟨rfl, rfl⟩
        go_wp2_with fail
        refine (windbreakref09_Reader_Left.calls h xs (a : Int) _ _ w _ HBoth.out.rf HBoth.out.bw (ref_left xs hl a hale)).mono ?_
        rintro e w5 ⟨rfl, hI5, hB5, hK5⟩
        have HBoth := Both.two HBoth hI5 hB5 hK5
        go_wp2_with fail
        go_ret
        exact ⟨by simp, HBoth.out.bw⟩
      · clear hstop
        go_wp2_with fail
        refine (left_calls g (xs.drop a) w0 _ HBoth.out.rd).mono ?_
        rintro e w4 ⟨rfl, rfl⟩
        go_wp2_with fail
        refine (windbreakref09_Reader_Left.calls h xs (a : Int) _ _ w _ HBoth.out.rf HBoth.out.bw (ref_left xs hl a hale)).mono ?_
        rintro e w5 ⟨rfl, hI5, hB5, hK5⟩
        have HBoth := Both.two HBoth hI5 hB5 hK5
        go_wp2_with fail
        go_ret
        exact ⟨by simp, HBoth.out.bw⟩

theorem ask_flds : Opn.Opens Try.prog 42 askK (fun x => (Lit.int .i64 x.1).wf = true ∧ (Lit.int .i64 x.2).wf = true) :=
  Opn.opens_struct Try.underlying42 (Opn.Flds.more (Opn.opens_int Try.underlying3) rfl (by kernel_rfl) (Opn.Flds.one (Opn.opens_int Try.underlying2) rfl (by kernel_rfl))) (by kernel_rfl)
theorem ask_opens : Opn.Opens Try.prog 37 (Kd.slice 42 askK) (fun xs => xs.length * 16 ≤ reachBytes ∧ ∀ x ∈ xs, (Lit.int .i64 x.1).wf = true ∧ (Lit.int .i64 x.2).wf = true) :=
  Opn.opens_slice ask_flds Try.underlying37 (by kernel_rfl) 42 (by kernel_rfl)

theorem codecReads_walk (A : Option Addr) (c : Nat) (xs : List Int) (A2 : Option Addr) (c2 : Nat) (l : List (Int × Int)) (w : World) (hr : (Kd.int .u8).C w A xs.length xs) (hc : xs.length ≤ c) (hl : xs.length * 1 ≤ 140737488351232) (hb : ∀ x ∈ xs, (Lit.int .u8 x).wf = true)
    (hr2 : askK.C w A2 l.length l) (hc2 : l.length ≤ c2) (hl2 : l.length * 16 ≤ reachBytes) (hw2 : ∀ x ∈ l, (Lit.int .i64 x.1).wf = true ∧ (Lit.int .i64 x.2).wf = true) :
    Calls Try.prog 8 #[.slice A xs.length c, .slice A2 l.length c2] w fun e w' => e = .returned (.bool true) ∧ Below w.heap.size w w' :=
  reads_calls A c xs A2 c2 l w hr hc (by omega) (u8_bytes hb) hr2 (by unfold reachBytes at hl2; omega) (fun x hx => (i64_bounds (hw2 x hx).2).2)
end Go.Proofs.Ytkdelfpjaaemnaa.Rd
