/- FrameTurned: a frame of which one bit was turned is none: the law's walk. -/
import Derived.Test.YtekakngojhnleaaTu
import Derived.Test.YtekakngojhnleaaBk
import Derived.RegionTactic
namespace Go.Proofs.Ytekakngojhnleaa.Tw
set_option linter.unusedSimpArgs false
set_option linter.unusedVariables false
open Go.RowKit Go.Proofs.Ytekakngojhnleaa.Fns Go.Proofs.Ytekakngojhnleaa.Rd Go.Proofs.Ytekakngojhnleaa.Rt Go.Proofs.Ytekakngojhnleaa.Fs Go.Proofs.Ytekakngojhnleaa.Fp Go.Proofs.Ytekakngojhnleaa.En Go.Proofs.Ytekakngojhnleaa.Of Go.Proofs.Ytekakngojhnleaa.Ew Go.Proofs.Ytekakngojhnleaa.De Go.Proofs.Ytekakngojhnleaa.Dw Go.Proofs.Ytekakngojhnleaa.Tu Go.Proofs.YtekakngojhnleaaW.PrintWords Go.Proofs.YtekakngojhnleaaW.PrintLast Go.Proofs.YtekakngojhnleaaW.PrintMore

theorem turn_table : ∀ x, x < 256 → ∀ r, r < 8 → x ^^^ (2 ^ r) < 256 ∧ x ^^^ (2 ^ r) ≠ x := by decide +kernel
theorem xor_turn (x : Int) (r : Nat) (hx : 0 ≤ x ∧ x < 256) (hr : r < 8) (v : Int) (hv : v = bits .xor .u8 x (2 ^ r % 256)) : 0 ≤ v ∧ v < 256 ∧ v ≠ x := by
  obtain ⟨n, rfl⟩ := Int.eq_ofNat_of_zero_le hx.1
  have hn : n < 256 := by omega
  have hp : 2 ^ r < 256 := Nat.lt_of_lt_of_le (Nat.pow_lt_pow_right (by omega) hr) (by decide)
  have e : (2 : Int) ^ r % 256 = ((2 ^ r : Nat) : Int) := by
    rw [Int.natCast_pow]
    have : ((2 ^ r : Nat) : Int) < 256 := by omega
    rw [Int.natCast_pow] at this
    exact Int.emod_eq_of_lt (Int.pow_nonneg (by omega)) this
  rw [e] at hv
  have h2 := u8_xor_nat n (2 ^ r) hn hp
  rw [← hv] at h2
  have h3 := turn_table n hn r hr
  omega
theorem decode_calls' (A : Option Addr) (c n : Nat) (l : List Int) (w : World) (hn : l.length = n) (hr : Kd.C (Kd.int .u8) w A n l) (hc : l.length ≤ c) (hl : l.length ≤ 140737488351232) (hb : ∀ x ∈ l, 0 ≤ x ∧ x < 256) (F : Fr) (E : Int) (hd : decA l = (F, E)) :
    Calls Try.prog 28 #[.slice A n c] w fun e w' => ∃ V, e = .returned (.tuple #[.agg #[.bool F.1, .int .i64 F.2.1, .int .i64 F.2.2.1, V], .int .i64 E]) ∧ (Kd.int .u8).R 5 w' w.heap.size (fun _ => True) V F.2.2.2 ∧ Below w.heap.size w w' := by
  subst hn
  exact decode_calls A c l w hr hc hl hb F E hd
set_option maxRecDepth 100000 in
set_option maxHeartbeats 1000000 in
theorem turned_no (d : Bool) (s a : Int) (l : List Int) (A : Option Addr) (c : Nat) (at_ : Int) (w : World) (h : IsFr w A c (d, s, a, l)) (hr : rightB d s a l.length = false ∨ at_ < 0 ∨ 10000 < l.length) :
    Calls Try.prog 10 #[.agg #[.bool d, .int .i64 s, .int .i64 a, .slice A l.length c], .int .i64 at_] w fun e w' => e = .returned (.bool true) ∧ Below w.heap.size w w' := by
  have H := Aside0.mk h
  obtain ⟨r, hR⟩ : ∃ r, rightB d s a l.length = r := ⟨_, rfl⟩
  have HR := Aside0.mk hR
  rw [hR] at hr
  clear h hR
  have hB0 : Below w.heap.size w (w.alloc (.cells #[.bool d, .int .i64 s, .int .i64 a, .slice A l.length c] 53)) := below_alloc (Below.refl _ _) _
  cases r
  · clear hr
    go_enter Try.func10, Try.ntmps10
    go_wp2_with fail
    refine (windbreakref10_Right.calls d s a A c l false _ (Kd.C_below H.out.reads hB0) H.out.cap (by rw [rightB_ref, HR.out])).mono ?_
    rintro e w3 ⟨rfl, hb3⟩
    have HB3 := Aside0.mk (hB0.trans (hb3.mono hB0.size))
    clear hb3 hB0
    go_wp2_with fail
    go_ret
    exact ⟨rfl, HB3.out⟩
  · by_cases ha : at_ < 0
    · clear hr
      go_enter Try.func10, Try.ntmps10
      go_wp2_with fail
      refine (windbreakref10_Right.calls d s a A c l true _ (Kd.C_below H.out.reads hB0) H.out.cap (by rw [rightB_ref, HR.out])).mono ?_
      rintro e w3 ⟨rfl, hb3⟩
      have HB3 := Aside0.mk (hB0.trans (hb3.mono hB0.size))
      clear hb3 hB0
      go_wp2_with fail
      go_ret
      exact ⟨rfl, HB3.out⟩
    · have hl : (10000 : Int) < (l.length : Int) := by rcases hr with hr | hr | hr; cases hr; exact absurd hr ha; omega
      clear hr
      go_enter Try.func10, Try.ntmps10
      go_wp2_with fail
      refine (windbreakref10_Right.calls d s a A c l true _ (Kd.C_below H.out.reads hB0) H.out.cap (by rw [rightB_ref, HR.out])).mono ?_
      rintro e w3 ⟨rfl, hb3⟩
      have q3 := box_cell hb3 3 _ rfl
      have HB3 := Aside0.mk (hB0.trans (hb3.mono hB0.size))
      clear hb3 hB0
      go_wp2_with fail
      go_ret
      exact ⟨rfl, HB3.out⟩
set_option maxRecDepth 100000 in
set_option maxHeartbeats 1000000 in
theorem turned_yes (d : Bool) (s a : Nat) (l : List Int) (A : Option Addr) (c : Nat) (at_ : Int) (w : World) (h : IsFr w A c (d, (s : Int), (a : Int), l)) (hr : rightB d (s : Int) (a : Int) l.length = true) (hs : s ≤ 1073741824) (ha : a ≤ 1073741824) (hl : l.length ≤ 10000) (hat : 0 ≤ at_) (hat2 : at_ < 9223372036854775808) :
    Calls Try.prog 10 #[.agg #[.bool d, .int .i64 (s : Int), .int .i64 (a : Int), .slice A l.length c], .int .i64 at_] w fun e w' => e = .returned (.bool true) ∧ Below w.heap.size w w' := by
  have hb := good_bytes h.good
  change ∀ y ∈ l, 0 ≤ y ∧ y < 256 at hb
  have H := Aside0.mk h
  have HR := Aside0.mk hr
  have HFB := Aside0.mk (frameL_bytes d s a l hs ha (by omega) hb)
  have HFL := Aside0.mk (show (frameL d s a l).length ≤ 20000 ∧ 0 < (frameL d s a l).length by
    have h1 := enc_le 9 s
    have h2 := enc_le 9 a
    have h3 := enc_le 9 l.length
    have hb4 : (be4 (sumN (headL d s a l))).length = 4 := rfl
    unfold frameL
    rw [List.length_append, hb4]
    unfold headL
    simp only [List.length_append, List.length_cons, List.length_nil]
    omega)
  have HT := Aside0.mk (dec_turned d s a l hs ha (by omega) hb)
  have HS := Aside0.mk (And.intro hs (And.intro ha (And.intro (show l.length ≤ 1048576 by omega) hb)))
  have HAT2 := Aside0.mk hat2
  clear h hr hs ha hb hat2
  have hnat : ¬ at_ < 0 := by omega
  have hB0 : Below w.heap.size w (w.alloc (.cells #[.bool d, .int .i64 (s : Int), .int .i64 (a : Int), .slice A l.length c] 53)) := below_alloc (Below.refl _ _) _
  have hnl : ¬ (10000 : Int) < (l.length : Int) := by omega
  go_enter Try.func10, Try.ntmps10
  go_wp2_with fail
  refine (windbreakref10_Right.calls d s a A c l true _ (Kd.C_below H.out.reads hB0) H.out.cap (by rw [rightB_ref, HR.out])).mono ?_
  rintro e w2 ⟨rfl, hb2⟩
  have q0 := box_cell hb2 0 _ rfl
  have q1 := box_cell hb2 1 _ rfl
  have q2 := box_cell hb2 2 _ rfl
  have q3 := box_cell hb2 3 _ rfl
  have HB2 := Aside0.mk (hB0.trans (hb2.mono hB0.size))
  clear hb2 hB0
  go_wp2_with fail
  refine (encode_yes d s a A c l _ (Kd.C_below H.out.reads HB2.out) H.out.cap HR.out HS.out.1 HS.out.2.1 HS.out.2.2.1 HS.out.2.2.2).mono ?_
  rintro e w3 ⟨V3, rfl, ho3, hb3⟩
  obtain ⟨A3, c3, rfl, hc3, hr3⟩ := Kd.R_reads ho3
  obtain ⟨FL, hFL⟩ : ∃ x, x = frameL d s a l := ⟨_, rfl⟩
  rw [← hFL] at HT HFB HFL hc3 hr3 ⊢
  have HR3 := Aside0.mk hr3
  have HB3 := Aside0.mk (HB2.out.trans (hb3.mono HB2.out.size))
  clear hb3 hr3 ho3 hFL q0 q1 q2 q3
  have hgt : ((FL.length : Int) == 0) = false := by have h := HFL.out.2; cases h2 : ((FL.length : Int) == 0) with | false => rfl | true => exact absurd (eq_of_beq h2) (by omega)
  have hL0 : (0 : Int) < (FL.length : Int) := by have := HFL.out.2; omega
  have hL1 : (FL.length : Int) ≤ 20000 := by have := HFL.out.1; omega
  have HE := Aside0.mk (Rd.R_empty (Kd.int .u8) 5 w3 w3.heap.size (Nat.le_refl _))
  go_wp2_with (at_builtin; refine Rd.bytes_app (w0 := w3) w3.heap.size rfl (.tmp 38) (.tmp 39) rfl _ [] FL _ _ _ rfl rfl HE.out (Kd.C_alloc HR3.out _) (below_alloc (Below.refl _ _) _) (by simp) (by have := HFL.out; simp; omega) ?_; intro A4 n4 c4 w4 hn4 ho4 hr4 hb4 _; have e4 : n4 = FL.length := hn4.out; subst e4; have HO4 := Aside0.mk (show (Kd.int .u8).R 5 w4 w3.heap.size (fun x => True) (Value.slice A4 FL.length c4) FL from ho4); have HB4 := Aside0.mk (HB3.out.trans (hb4.mono HB3.out.size)); clear ho4 hr4 hb4 hn4)
  have HOW := Aside0.mk (Kd.own_of_R HO4.out)
  obtain ⟨g, cap, hsl, hbg, hlg⟩ := HOW.out.form (by omega)
  injection hsl with e1 e2 e3
  subst e1 e3
  clear e2
  obtain ⟨p, hp⟩ : ∃ p, p = at_ % (8 * (FL.length : Int)) := ⟨_, rfl⟩
  have hp0 : 0 ≤ p := by rw [hp]; exact Int.emod_nonneg _ (by omega)
  have hp1 : p < 8 * (FL.length : Int) := by rw [hp]; exact Int.emod_lt_of_pos _ (by omega)
  rw [← hp]
  clear hp
  obtain ⟨i, hi⟩ : ∃ i : Nat, p / 8 = (i : Int) := ⟨(p / 8).toNat, by omega⟩
  obtain ⟨r, hr⟩ : ∃ r : Nat, p % 8 = (r : Int) := ⟨(p % 8).toNat, by omega⟩
  have hi2 : (i : Int) < (FL.length : Int) := by omega
  have hr2 : r < 8 := by omega
  obtain ⟨hc1, hf1⟩ := own_at (xs := FL) HOW.out (i : Int) (by omega) hi2
  rw [Int.toNat_natCast] at hc1 hf1
  clear hl hnl
  go_region
  go_wp2_with fail
  obtain ⟨v, hv⟩ : ∃ v, v = bits .xor .u8 (rd FL (i : Int)) (2 ^ r % 256) := ⟨_, rfl⟩
  rw [← hv]
  have hx := HFB.out _ (Fs.rd_mem FL i (by omega))
  obtain ⟨hv0, hv1, hv2⟩ := xor_turn (rd FL (i : Int)) r hx hr2 v hv
  clear hv hx
  have hst := own_store (xs := FL) HOW.out (i : Int) v
  rw [Int.toNat_natCast] at hst
  have hC : (Kd.int .u8).C (w4.setCell ⟨g, i, none⟩ (.int .u8 v)).drew (some ⟨g, 0, none⟩) FL.length (FL.set i v) := by
    have h1 := Kd.R_of_own (h1 := fun _ => rfl) (enc := Value.int .u8) (ok := fun _ => True) (by rw [List.length_set]; exact hst.1) (fun _ _ => trivial)
    obtain ⟨A9, c9, h2, h3, h4⟩ := Kd.R_reads h1
    rw [List.length_set] at h2 h4
    injection h2 with e1 e2 e3
    subst e1
    exact Kd.C_below h4 (below_drew (Below.refl _ _))
  have hlt : (FL.set i v).length = FL.length := List.length_set
  have HD := Aside0.mk (HT.out i v (by omega) hv0 hv1 hv2)
  have hB5 : Below w.heap.size w (w4.setCell ⟨g, i, none⟩ (.int .u8 v)).drew := below_drew (below_set HB4.out (Nat.le_trans HB3.out.size hbg))
  have hbs : ∀ x ∈ FL.set i v, 0 ≤ x ∧ x < 256 := fun x hx => by
    rcases List.mem_or_eq_of_mem_set hx with h | h
    · exact HFB.out x h
    · subst h; exact ⟨hv0, hv1⟩
  refine (decode_calls' (some ⟨g, 0, none⟩) c4 FL.length (FL.set i v) _ hlt hC (by rw [hlt]; exact (Kd.R_reads' HO4.out).2.1) (by rw [hlt]; omega) hbs _ _ HD.out).mono ?_
  rintro e w6 ⟨V6, rfl, ho6, hb6⟩
  obtain ⟨A6, c6, rfl, _, _⟩ := Kd.R_reads ho6
  have HB6 := Aside0.mk (hB5.trans (hb6.mono hB5.size))
  clear ho6 hb6 hB5 hbs hlt hC hst hc1 hf1
  go_wp2_with fail
  go_ret
  exact ⟨rfl, HB6.out.alloc HB6.out.size _⟩
theorem frameTurned_walk (x : Fr × Option Addr × Nat) (at_ : Int) (w : World) (h : IsFr w x.2.1 x.2.2 x.1) (hat : (Lit.int .i64 at_).wf = true) :
    Calls Try.prog 10 #[.agg #[.bool x.1.1, .int .i64 x.1.2.1, .int .i64 x.1.2.2.1, .slice x.2.1 x.1.2.2.2.length x.2.2], .int .i64 at_] w fun e w' => e = .returned (.bool true) ∧ Below w.heap.size w w' := by
  obtain ⟨⟨d, s, a, l⟩, A, c⟩ := x
  cases hr : rightB d s a l.length with
  | false => exact turned_no d s a l A c at_ w h (.inl hr)
  | true =>
    by_cases h1 : at_ < 0
    · exact turned_no d s a l A c at_ w h (.inr (.inl h1))
    · by_cases h2 : 10000 < l.length
      · exact turned_no d s a l A c at_ w h (.inr (.inr h2))
      · obtain ⟨S, B, rfl, rfl, hs, ha, hl⟩ := right_facts hr
        have h3 : at_ < 9223372036854775808 := by
          simp only [Lit.wf, Bool.and_eq_true, IntKind.min, IntKind.max, IntKind.bits, IntKind.signed] at hat
          simp at hat
          omega
        exact turned_yes d S B l A c at_ w h hr hs ha (by omega) (by omega) h3
end Go.Proofs.Ytekakngojhnleaa.Tw
