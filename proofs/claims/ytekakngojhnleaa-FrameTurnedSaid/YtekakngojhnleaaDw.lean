/- FrameDecodes: the law's walk. -/
import Derived.Test.YtekakngojhnleaaDp
namespace Go.Proofs.Ytekakngojhnleaa.Dw
set_option linter.unusedSimpArgs false
set_option linter.unusedVariables false
open Go.RowKit Go.Proofs.Ytekakngojhnleaa.Fns Go.Proofs.Ytekakngojhnleaa.Rd Go.Proofs.Ytekakngojhnleaa.Rt Go.Proofs.Ytekakngojhnleaa.En Go.Proofs.Ytekakngojhnleaa.Of Go.Proofs.Ytekakngojhnleaa.Ew Go.Proofs.Ytekakngojhnleaa.De Go.Proofs.YtekakngojhnleaaW.PrintWords Go.Proofs.YtekakngojhnleaaW.PrintLast Go.Proofs.YtekakngojhnleaaW.PrintMore

/-- What Decode tells of any bytes. -/
def decA (l : List Int) : Fr × Int := if l.length < 5 ∨ 1 < rd l 0 then ((false, 0, 0, []), 14) else decF (l.length - 4) l
theorem decode_calls (A : Option Addr) (c : Nat) (l : List Int) (w : World) (hr : Kd.C (Kd.int .u8) w A l.length l) (hc : l.length ≤ c) (hl : l.length ≤ 140737488351232) (hb : ∀ x ∈ l, 0 ≤ x ∧ x < 256) (F : Fr) (E : Int) (hd : decA l = (F, E)) :
    Calls Try.prog 28 #[.slice A l.length c] w fun e w' => ∃ V, e = .returned (.tuple #[.agg #[.bool F.1, .int .i64 F.2.1, .int .i64 F.2.2.1, V], .int .i64 E]) ∧ (Kd.int .u8).R 5 w' w.heap.size (fun _ => True) V F.2.2.2 ∧ Below w.heap.size w w' := by
  unfold decA at hd
  by_cases h : l.length < 5
  · rw [if_pos (.inl h)] at hd
    injection hd with h1 h2
    subst h1 h2
    refine (decode_short A c l w h (by omega)).mono ?_
    rintro e w' ⟨rfl, hb⟩
    exact ⟨_, rfl, Kd.R_nil _ _ _ _ _, hb⟩
  · by_cases h2 : 1 < rd l 0
    · rw [if_pos (.inr h2)] at hd
      injection hd with h3 h4
      subst h3 h4
      refine (decode_two A c l w hr (by omega) (by omega) h2).mono ?_
      rintro e w' ⟨rfl, hb⟩
      exact ⟨_, rfl, Kd.R_nil _ _ _ _ _, hb⟩
    · rw [if_neg (by rintro (h3 | h3); exact h h3; exact h2 h3)] at hd
      exact decode_on A c (l.length - 4) l w hr hc (by omega) (by omega) hl hb h2 F E hd
theorem refdecode_calls (A : Option Addr) (c : Nat) (l : List Int) (w : World) (hr : Kd.C (Kd.int .u8) w A l.length l) (hc : l.length ≤ c) (hl : l.length ≤ 140737488351232) (hb : ∀ x ∈ l, 0 ≤ x ∧ x < 256) (F : Fr) (E : Int) (hd : decA l = (F, E)) :
    Calls Try.prog 29 #[.slice A l.length c] w fun e w' => ∃ V, e = .returned (.tuple #[.agg #[.bool F.1, .int .i64 F.2.1, .int .i64 F.2.2.1, V], .int .i64 E]) ∧ (Kd.int .u8).R 5 w' w.heap.size (fun _ => True) V F.2.2.2 ∧ Below w.heap.size w w' := by
  unfold decA at hd
  by_cases h : l.length < 5
  · rw [if_pos (.inl h)] at hd
    injection hd with h1 h2
    subst h1 h2
    refine (refdecode_short A c l w h).mono ?_
    rintro e w' ⟨rfl, hb⟩
    exact ⟨_, rfl, Kd.R_nil _ _ _ _ _, hb⟩
  · by_cases h2 : 1 < rd l 0
    · rw [if_pos (.inr h2)] at hd
      injection hd with h3 h4
      subst h3 h4
      refine (refdecode_two A c l w hr (by omega) h2).mono ?_
      rintro e w' ⟨rfl, hb⟩
      exact ⟨_, rfl, Kd.R_nil _ _ _ _ _, hb⟩
    · rw [if_neg (by rintro (h3 | h3); exact h h3; exact h2 h3)] at hd
      rw [dec_ref (l.length - 4) l (by omega) (by omega) hb h2] at hd
      exact refdecode_on A c (l.length - 4) l w hr hc (by omega) (by omega) hl hb h2 F E hd

set_option maxRecDepth 100000 in
set_option maxHeartbeats 1000000 in
theorem frameDecodes_walk (A0 : Option Addr) (c0 : Nat) (l0 : List Int) (w : World) (hr0 : Kd.C (Kd.int .u8) w A0 l0.length l0) (hc0 : l0.length ≤ c0) (hl : l0.length * 1 ≤ 140737488351232) (hw : ∀ x ∈ l0, (Lit.int .u8 x).wf = true) :
    Calls Try.prog 8 #[.slice A0 l0.length c0] w fun e w' => e = .returned (.bool true) ∧ Below w.heap.size w w' := by
  obtain ⟨F, E, hd⟩ : ∃ F E, decA l0 = (F, E) := ⟨_, _, rfl⟩
  have HD := Aside0.mk hd
  have HR := Aside0.mk hr0
  have HB := Aside0.mk (u8_bytes hw)
  have HL := Aside0.mk (show l0.length ≤ 140737488351232 by omega)
  clear hd hr0 hw hl
  by_cases hbig : (l0.length : Int) > 3000000
  · go_enter Try.func8, Try.ntmps8
    go_wp2
    go_ret
    exact ⟨rfl, Below.refl _ _⟩
  · go_enter Try.func8, Try.ntmps8
    go_wp2_with fail
    refine (decode_calls A0 c0 l0 _ HR.out hc0 HL.out HB.out F E HD.out).mono ?_
    rintro e w1 ⟨V1, rfl, ho1, hb1⟩
    obtain ⟨A1, c1, rfl, hc1, hr1⟩ := Kd.R_reads ho1
    obtain ⟨d, s, a, bd⟩ := F
    have HO1 := Aside0.mk ho1
    have HB1 := Aside0.mk hb1
    clear ho1 hb1 hr1
    go_wp2_with fail
    have hB2 := HB1.out.alloc HB1.out.size (.cells #[.bool d, .int .i64 s, .int .i64 a, .slice A1 bd.length c1] 53)
    refine (refdecode_calls A0 c0 l0 _ (Kd.C_below HR.out hB2) hc0 HL.out HB.out _ E HD.out).mono ?_
    rintro e w3 ⟨V3, rfl, ho3, hb3⟩
    obtain ⟨A3, c3, rfl, hc3, hr3⟩ := Kd.R_reads ho3
    change bd.length ≤ c3 at hc3
    have q0 : ∀ o, (w3.alloc o).cell? ⟨w1.heap.size, 0, none⟩ = some (.bool d) := fun o => box_cell (below_alloc hb3 o) 0 _ rfl
    have q1 : ∀ o, (w3.alloc o).cell? ⟨w1.heap.size, 1, none⟩ = some (.int .i64 s) := fun o => box_cell (below_alloc hb3 o) 1 _ rfl
    have q2 : ∀ o, (w3.alloc o).cell? ⟨w1.heap.size, 2, none⟩ = some (.int .i64 a) := fun o => box_cell (below_alloc hb3 o) 2 _ rfl
    have q3 : ∀ o, (w3.alloc o).cell? ⟨w1.heap.size, 3, none⟩ = some (.slice A1 bd.length c1) := fun o => box_cell (below_alloc hb3 o) 3 _ rfl
    have HO1b := Aside0.mk (Kd.R_below (Kd.R_alloc HO1.out (.cells #[.bool d, .int .i64 s, .int .i64 a, .slice A1 bd.length c1] 53)) hb3)
    have HO3 := Aside0.mk ho3
    have HB3 := Aside0.mk (hB2.trans (hb3.mono hB2.size))
    clear ho3 hb3 hr3 hB2
    go_wp2_with fail
    obtain ⟨W4, hW4⟩ : ∃ W, W = w3.alloc (.cells #[.bool d, .int .i64 s, .int .i64 a, .slice A3 bd.length c3] 53) := ⟨_, rfl⟩
    have hr1 : (Kd.int .u8).C W4 A1 bd.length bd := by rw [hW4]; exact Kd.C_alloc (Kd.R_reads' HO1b.out).2.2 _
    have hr3 : (Kd.int .u8).C W4 A3 bd.length bd := by rw [hW4]; exact Kd.C_alloc (Kd.R_reads' HO3.out).2.2 _
    have HB4 := Aside0.mk (show Below w.heap.size w W4 by rw [hW4]; exact HB3.out.alloc HB3.out.size _)
    rw [← hW4]
    have hsame : windbreakref10_Same.f d s a bd d s a bd = some true := by unfold windbreakref10_Same.f; simp
    refine (windbreakref10_Same.calls d s a A1 c1 bd d s a A3 c3 bd true _ hr1 hc1 hr3 hc3 hsame).mono ?_
    rintro e w5 ⟨rfl, hb5⟩
    have HB5 := Aside0.mk (HB4.out.trans (hb5.mono HB4.out.size))
    clear hr1 hr3 hsame hb5 q0 q1 q2 q3 hW4
    go_wp2_with fail
    refine (decode_calls none 0 [] _ (Kd.C_nil _ _) (Nat.le_refl _) (by decide) (fun x hx => absurd hx List.not_mem_nil) (false, 0, 0, []) 14 rfl).mono ?_
    rintro e w6 ⟨V6, rfl, ho6, hb6⟩
    obtain ⟨A6, c6, rfl, _, _⟩ := Kd.R_reads ho6
    have HB6 := Aside0.mk (HB5.out.trans (hb6.mono HB5.out.size))
    clear ho6 hb6
    go_wp2_with fail
    go_ret
    exact ⟨rfl, HB6.out.alloc HB6.out.size _⟩
end Go.Proofs.Ytekakngojhnleaa.Dw
