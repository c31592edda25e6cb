/- slices.Equal of ints: the walk. -/
import Derived.Test.YtdlkcohfgfnkbaaTs
import Derived.RegionTactic
namespace Go.Proofs.Ytdlkcohfgfnkbaa.Eq
open Go.RowKit Go.Proofs.Ytdlkcohfgfnkbaa.PDatasetJoins Go.Proofs.Ytdlkcohfgfnkbaa.Tp Go.Proofs.Ytdlkcohfgfnkbaa.Tr Go.Proofs.YtdlkcohfgfnkbaaW.PrintWords Go.Proofs.YtdlkcohfgfnkbaaW.PrintLast Go.Proofs.YtdlkcohfgfnkbaaW.PrintMore
set_option linter.unusedSimpArgs false
set_option linter.unusedVariables false

theorem take_eq_next {a b : List Int} {i : Nat} (ha : i < a.length) (hb : i < b.length) (h : a.take i = b.take i) : a.take (i + 1) = b.take (i + 1) ↔ rd a (i : Int) = rd b (i : Int) := by
  rw [List.take_succ_eq_append_getElem ha, List.take_succ_eq_append_getElem hb, h, rd_get a i ha, rd_get b i hb]
  exact ⟨fun q => (List.cons.inj (List.append_cancel_left q)).1, fun q => by rw [q]⟩
set_option maxRecDepth 100000 in
set_option maxHeartbeats 400000 in
theorem equal_calls (A B : Option Addr) (c d : Nat) (a b : List Int) (w : World) (ha : Kd.C (Kd.int .i64) w A a.length a) (hb : Kd.C (Kd.int .i64) w B b.length b) (hl : a.length ≤ 140737488351232) (hl2 : b.length ≤ 140737488351232) :
    Calls Try.prog 60 #[.slice A a.length c, .slice B b.length d] w fun e w' => e = .returned (.bool (decide (a = b))) ∧ Below w.heap.size w w' := by
  have HA := Aside0.mk ha
  have HB := Aside0.mk hb
  clear ha hb
  by_cases hn : a.length = b.length
  · have hnb : ((a.length : Int) != (b.length : Int)) = false := by simp [hn]
    have HN := Aside0.mk hn
    clear hn
    go_enter Try.func60, Try.ntmps60
    go_wp2_with fail
    go_loopg [13] a.length (fun g v13 wx => ∃ i : Nat, i + g = a.length ∧ v13 = .int .i64 (i : Int) ∧ Aside0 (a.take i = b.take i) ∧ Aside0 (Below w.heap.size w wx))
    case atStart => exact ⟨0, by omega, rfl, ⟨by simp⟩, ⟨Below.refl _ _⟩⟩
    case round =>
      obtain ⟨i, hig, rfl, HT, HBy⟩ := hrel
      cases gk with
      | zero =>
        have hlt : ¬ (i : Int) < (a.length : Int) := by omega
        have HE := Aside0.mk (show a = b by
          have := HT.out
          rw [List.take_of_length_le (by omega), List.take_of_length_le (by have := HN.out; omega)] at this
          exact this)
        go_wp2_with fail
        go_ret
        exact ⟨by rw [decide_eq_true HE.out]; rfl, HBy.out⟩
      | succ g =>
        have hlt : (i : Int) < (a.length : Int) := by omega
        have hltb : (i : Int) < (b.length : Int) := by have := HN.out; omega
        obtain ⟨ad, rfl, hca⟩ := Kd.at_int (Kd.C_below HA.out HBy.out) (i : Int) (by omega) hlt
        obtain ⟨bd, rfl, hcb⟩ := Kd.at_int (Kd.C_below HB.out HBy.out) (i : Int) (by omega) hltb
        rw [Int.toNat_natCast] at hca hcb
        have hs := take_eq_next (by omega) (by have := HN.out; omega) HT.out
        obtain ⟨x, hx⟩ : ∃ x, x = rd a (i : Int) := ⟨_, rfl⟩
        obtain ⟨y, hy⟩ : ∃ y, y = rd b (i : Int) := ⟨_, rfl⟩
        rw [← hx] at hca hs
        rw [← hy] at hcb hs
        have HS := Aside0.mk hs
        clear hs hx hy
        by_cases hxy : x = y
        · have hxb : (x != y) = false := by simp [hxy]
          have HXY := Aside0.mk hxy
          clear hxy
          go_upto_region 6 with fail
          go_quiet (fail)
          go_wp2_with fail
          go_roundg g
          case measure => omega
          case rel => exact ⟨i + 1, by omega, rfl, ⟨HS.out.2 HXY.out⟩, ⟨by first | exact HBy.out | exact pw_below_drewN HBy.out _ | exact below_drew HBy.out⟩⟩
        · have hxb : (x != y) = true := by simp [hxy]
          have HXY := Aside0.mk hxy
          clear hxy
          go_upto_region 6 with fail
          go_quiet (fail)
          go_wp2_with fail
          go_ret
          refine ⟨?_, by first | exact HBy.out | exact pw_below_drewN HBy.out _ | exact below_drew HBy.out⟩
          rw [decide_eq_false (fun e => HXY.out (HS.out.1 (by rw [e])))]
          rfl
  · have hnb : ((a.length : Int) != (b.length : Int)) = true := by simp; omega
    have HN := Aside0.mk hn
    clear hn
    go_enter Try.func60, Try.ntmps60
    go_wp2_with fail
    go_ret
    refine ⟨?_, Below.refl _ _⟩
    rw [decide_eq_false (fun e => HN.out (by rw [e]))]
    rfl
end Go.Proofs.Ytdlkcohfgfnkbaa.Eq
