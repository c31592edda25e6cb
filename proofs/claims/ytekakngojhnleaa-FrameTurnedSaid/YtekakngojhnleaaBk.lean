/- FrameBack: what was encoded is decoded as it was. -/
import Derived.Test.YtekakngojhnleaaDw
namespace Go.Proofs.Ytekakngojhnleaa.Bk
set_option linter.unusedSimpArgs false
set_option linter.unusedVariables false
open Go.RowKit Go.Proofs.Ytekakngojhnleaa.Fns Go.Proofs.Ytekakngojhnleaa.Rd Go.Proofs.Ytekakngojhnleaa.Rt Go.Proofs.Ytekakngojhnleaa.En Go.Proofs.Ytekakngojhnleaa.Of Go.Proofs.Ytekakngojhnleaa.Ew Go.Proofs.Ytekakngojhnleaa.De Go.Proofs.Ytekakngojhnleaa.Dw Go.Proofs.YtekakngojhnleaaW.PrintWords Go.Proofs.YtekakngojhnleaaW.PrintLast Go.Proofs.YtekakngojhnleaaW.PrintMore

theorem enc_bytes9 (x : Nat) (h : x < 18446744073709551616) : ∀ c ∈ enc 9 x, 0 ≤ c ∧ c < 256 := by
  have hp : (128 : Nat) ^ (9 + 1) = 1180591620717411303424 := by decide
  exact enc_bytes 9 x (by omega)
theorem rNum_enc (x : Nat) (hx : x ≤ 1073741824) (rest : List Int) (hr : ∀ c ∈ rest, 0 ≤ c ∧ c < 256) : rNum 1073741824 (enc 9 x ++ rest) = ((x : Int), 0, rest) := by
  have h := nx_enc x (by omega) rest hr
  have hp := enc_pos 9 x
  unfold rNum
  rw [h, if_neg (show ¬ ((enc 9 x).length = 0 ∨ (1073741824 : Int) < (x : Int)) by omega)]
  simp
theorem rByt_enc (l : List Int) (hl : l.length ≤ 1048576) (hb : ∀ c ∈ l, 0 ≤ c ∧ c < 256) : rByt 1048576 (enc 9 l.length ++ l) = (l, 0, []) := by
  have h := nx_enc l.length (by omega) l hb
  have hp := enc_pos 9 l.length
  unfold rByt
  rw [h, if_neg (by simp only [List.length_append]; omega)]
  simp
theorem dec_back (d : Bool) (s a : Nat) (l : List Int) (hr : rightB d (s : Int) (a : Int) l.length = true) (hs : s ≤ 1073741824) (ha : a ≤ 1073741824) (hl : l.length ≤ 1048576) (hb : ∀ x ∈ l, 0 ≤ x ∧ x < 256) : decA (frameL d s a l) = ((d, (s : Int), (a : Int), l), 0) := by
  have h1 := enc_pos 9 s
  have h2 := enc_pos 9 a
  have h3 := enc_pos 9 l.length
  have hb4 : (be4 (sumN (headL d s a l))).length = 4 := rfl
  have hhl : 4 ≤ (headL d s a l).length := by unfold headL; simp only [List.length_append, List.length_cons, List.length_nil]; omega
  have hlen : (frameL d s a l).length = (headL d s a l).length + 4 := by unfold frameL; rw [List.length_append, hb4]
  have hrd : rd (frameL d s a l) 0 = if d then 1 else 0 := rfl
  have htake : (frameL d s a l).take (headL d s a l).length = headL d s a l := by unfold frameL; exact List.take_left' rfl
  have hdrop : (frameL d s a l).drop (headL d s a l).length = be4 (sumN (headL d s a l)) := by unfold frameL; exact List.drop_left' rfl
  have hd1 : (headL d s a l).drop 1 = enc 9 s ++ (enc 9 a ++ (enc 9 l.length ++ l)) := by unfold headL; simp only [List.append_assoc, List.cons_append, List.nil_append, List.drop_succ_cons, List.drop_zero]
  have hbl : ∀ c ∈ enc 9 l.length ++ l, 0 ≤ c ∧ c < 256 := by
    intro c hc
    rcases List.mem_append.1 hc with hc | hc
    · exact enc_bytes9 _ (by omega) c hc
    · exact hb c hc
  have hbal : ∀ c ∈ enc 9 a ++ (enc 9 l.length ++ l), 0 ≤ c ∧ c < 256 := by
    intro c hc
    rcases List.mem_append.1 hc with hc | hc
    · exact enc_bytes9 _ (by omega) c hc
    · exact hbl c hc
  have hp1 := rNum_enc s hs _ hbal
  have hp2 := rNum_enc a ha _ hbl
  have hp3 := rByt_enc l hl hb
  have hsum := sumN_lt (headL d s a l) (head_bytes d s a l hs ha hl hb)
  have hbe : beN (be4 (sumN (headL d s a l))) 0 = sumN (headL d s a l) := (be4_of _ hb4 (fun x hx => frameL_bytes d s a l hs ha hl hb x (by unfold frameL; exact List.mem_append_right _ hx)) _ hsum).2 rfl
  have hd : ((if d then (1 : Int) else 0) == 1) = d := by cases d <;> rfl
  unfold decA
  rw [hrd, if_neg (by rintro (h4 | h4); omega; revert h4; cases d <;> decide), show (frameL d s a l).length - 4 = (headL d s a l).length by omega]
  unfold decF
  rw [htake, hd1, hdrop, hp1, hp2, hp3, hrd, hd, hbe, if_pos ⟨rfl, rfl, rfl, rfl, rfl, hr⟩]

set_option maxRecDepth 100000 in
set_option maxHeartbeats 1000000 in
theorem back_no (d : Bool) (s a : Int) (l : List Int) (A : Option Addr) (c : Nat) (w : World) (h : IsFr w A c (d, s, a, l)) (hr : rightB d s a l.length = false) :
    Calls Try.prog 9 #[.agg #[.bool d, .int .i64 s, .int .i64 a, .slice A l.length c]] w fun e w' => e = .returned (.bool true) ∧ Below w.heap.size w w' := by
  have H := Aside0.mk h
  have HR := Aside0.mk hr
  clear h hr
  go_enter Try.func9, Try.ntmps9
  go_wp2_with fail
  have hB0 : Below w.heap.size w (w.alloc (.cells #[.bool d, .int .i64 s, .int .i64 a, .slice A l.length c] 53)) := below_alloc (Below.refl _ _) _
  refine (encode_no d s a A l.length c _ HR.out).mono ?_
  rintro e w2 ⟨rfl, hb2⟩
  have q0 := box_cell hb2 0 _ rfl
  have q1 := box_cell hb2 1 _ rfl
  have q2 := box_cell hb2 2 _ rfl
  have q3 := box_cell hb2 3 _ rfl
  have HB2 := Aside0.mk (hB0.trans (hb2.mono hB0.size))
  clear hb2 hB0
  go_wp2_with fail
  refine (windbreakref10_Right.calls d s a A c l false _ (Kd.C_below H.out.reads HB2.out) H.out.cap (by rw [rightB_ref, HR.out])).mono ?_
  rintro e w3 ⟨rfl, hb3⟩
  have HB3 := Aside0.mk (HB2.out.trans (hb3.mono HB2.out.size))
  clear hb3
  go_wp2_with fail
  go_ret
  exact ⟨rfl, HB3.out⟩
set_option maxRecDepth 100000 in
set_option maxHeartbeats 1000000 in
theorem back_yes (d : Bool) (s a : Nat) (l : List Int) (A : Option Addr) (c : Nat) (w : World) (h : IsFr w A c (d, (s : Int), (a : Int), l)) (hr : rightB d (s : Int) (a : Int) l.length = true) (hs : s ≤ 1073741824) (ha : a ≤ 1073741824) (hl : l.length ≤ 1048576) :
    Calls Try.prog 9 #[.agg #[.bool d, .int .i64 (s : Int), .int .i64 (a : Int), .slice A l.length c]] w fun e w' => e = .returned (.bool true) ∧ Below w.heap.size w w' := by
  have hb := good_bytes h.good
  change ∀ y ∈ l, 0 ≤ y ∧ y < 256 at hb
  have H := Aside0.mk h
  have HR := Aside0.mk hr
  have HD := Aside0.mk (dec_back d s a l hr hs ha hl hb)
  have HFB := Aside0.mk (frameL_bytes d s a l hs ha hl hb)
  have HFL := Aside0.mk (show (frameL d s a l).length ≤ 140737488351232 ∧ 0 < (frameL d s a l).length by
    have h1 := enc_le 9 s
    have h2 := enc_le 9 a
    have h3 := enc_le 9 l.length
    have hb4 : (be4 (sumN (headL d s a l))).length = 4 := rfl
    unfold frameL
    rw [List.length_append, hb4]
    unfold headL
    simp only [List.length_append, List.length_cons, List.length_nil]
    omega)
  have HS := Aside0.mk (And.intro hs (And.intro ha (And.intro hl hb)))
  clear h hr hs ha hl hb
  go_enter Try.func9, Try.ntmps9
  go_wp2_with fail
  have hB0 : Below w.heap.size w (w.alloc (.cells #[.bool d, .int .i64 (s : Int), .int .i64 (a : Int), .slice A l.length c] 53)) := below_alloc (Below.refl _ _) _
  refine (encode_yes d s a A c l _ (Kd.C_below H.out.reads hB0) H.out.cap HR.out HS.out.1 HS.out.2.1 HS.out.2.2.1 HS.out.2.2.2).mono ?_
  rintro e w2 ⟨V2, rfl, ho2, hb2⟩
  obtain ⟨A2, c2, rfl, hc2, hr2⟩ := Kd.R_reads ho2
  obtain ⟨FL, hFL⟩ : ∃ x, x = frameL d s a l := ⟨_, rfl⟩
  rw [← hFL] at HD HFB HFL hc2 hr2 ⊢
  have q0 := box_cell hb2 0 _ rfl
  have q1 := box_cell hb2 1 _ rfl
  have q2 := box_cell hb2 2 _ rfl
  have q3 := box_cell hb2 3 _ rfl
  have HBB := Aside0.mk hb2
  have HB2 := Aside0.mk (hB0.trans (hb2.mono hB0.size))
  have HR2 := Aside0.mk hr2
  clear hb2 hB0 hr2 ho2 hFL
  go_wp2_with fail
  refine (windbreakref10_Right.calls d s a A c l true _ (Kd.C_below H.out.reads HB2.out) H.out.cap (by rw [rightB_ref, HR.out])).mono ?_
  rintro e w3 ⟨rfl, hb3⟩
  have HB3 := Aside0.mk (HB2.out.trans (hb3.mono HB2.out.size))
  have HR3 := Aside0.mk (Kd.C_below HR2.out hb3)
  have HBB3 := Aside0.mk (HBB.out.trans (hb3.mono HBB.out.size))
  clear hb3 q0 q1 q2 q3
  go_wp2_with fail
  refine (decode_calls A2 c2 FL _ HR3.out hc2 HFL.out.1 HFB.out _ _ HD.out).mono ?_
  rintro e w4 ⟨V4, rfl, ho4, hb4⟩
  obtain ⟨A4, c4, rfl, hc4, hr4⟩ := Kd.R_reads ho4
  change l.length ≤ c4 at hc4
  have HB4 := Aside0.mk (HB3.out.trans (hb4.mono HB3.out.size))
  have HBB4 := Aside0.mk (HBB3.out.trans (hb4.mono HBB3.out.size))
  have q0 : ∀ o, (w4.alloc o).cell? ⟨w.heap.size, 0, none⟩ = some (.bool d) := fun o => box_cell (HBB4.out.alloc HBB4.out.size o) 0 _ rfl
  have q1 : ∀ o, (w4.alloc o).cell? ⟨w.heap.size, 1, none⟩ = some (.int .i64 (s : Int)) := fun o => box_cell (HBB4.out.alloc HBB4.out.size o) 1 _ rfl
  have q2 : ∀ o, (w4.alloc o).cell? ⟨w.heap.size, 2, none⟩ = some (.int .i64 (a : Int)) := fun o => box_cell (HBB4.out.alloc HBB4.out.size o) 2 _ rfl
  have q3 : ∀ o, (w4.alloc o).cell? ⟨w.heap.size, 3, none⟩ = some (.slice A l.length c) := fun o => box_cell (HBB4.out.alloc HBB4.out.size o) 3 _ rfl
  have HR4 := Aside0.mk hr4
  clear ho4 hb4 hr4
  have hgt : (0 : Int) < (FL.length : Int) := by have := HFL.out.2; omega
  go_wp2_with fail
  have hsame : windbreakref10_Same.f d s a l d s a l = some true := by unfold windbreakref10_Same.f; simp
  obtain ⟨W5, hW5⟩ : ∃ W, W = w4.alloc (.cells #[.bool d, .int .i64 (s : Int), .int .i64 (a : Int), .slice A4 l.length c4] 53) := ⟨_, rfl⟩
  have hB5 : Below w.heap.size w W5 := by rw [hW5]; exact HB4.out.alloc HB4.out.size _
  have hr5 : (Kd.int .u8).C W5 A4 l.length l := by rw [hW5]; exact Kd.C_alloc HR4.out _
  rw [← hW5]
  refine (windbreakref10_Same.calls d s a A4 c4 l d s a A c l true _ hr5 hc4 (Kd.C_below H.out.reads hB5) H.out.cap hsame).mono ?_
  rintro e w6 ⟨rfl, hb6⟩
  have HB6 := Aside0.mk (hB5.trans (hb6.mono hB5.size))
  clear hb6 hB5 hr5 hsame hW5 q0 q1 q2 q3
  go_wp2_with fail
  go_ret
  exact ⟨rfl, HB6.out⟩
theorem frameBack_walk (x : Fr × Option Addr × Nat) (w : World) (h : IsFr w x.2.1 x.2.2 x.1) :
    Calls Try.prog 9 #[.agg #[.bool x.1.1, .int .i64 x.1.2.1, .int .i64 x.1.2.2.1, .slice x.2.1 x.1.2.2.2.length x.2.2]] w fun e w' => e = .returned (.bool true) ∧ Below w.heap.size w w' := by
  obtain ⟨⟨d, s, a, l⟩, A, c⟩ := x
  cases hr : rightB d s a l.length with
  | false => exact back_no d s a l A c w h hr
  | true =>
    obtain ⟨S, B, rfl, rfl, hs, ha, hl⟩ := right_facts hr
    exact back_yes d S B l A c w h hr hs ha hl
end Go.Proofs.Ytekakngojhnleaa.Bk
