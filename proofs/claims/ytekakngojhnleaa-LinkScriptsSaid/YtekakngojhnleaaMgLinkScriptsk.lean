/- Parts of the proof of LinkScripts, merged: each is proved for all its inputs. -/
import Derived.Test.YtekakngojhnleaaMgLinkScriptsi
import Derived.BigRegion
import Derived.Deep.CutRange
/- Links: In of the document walked. -/
namespace Go.Proofs.Ytekakngojhnleaa.Xe
open Go.RowKit Go.Maps Go.Proofs.Ytekakngojhnleaa.Lp Go.Proofs.Ytekakngojhnleaa.Lm Go.Proofs.Ytekakngojhnleaa.La Go.Proofs.Ytekakngojhnleaa.Lb Go.Proofs.Ytekakngojhnleaa.Lc Go.Proofs.Ytekakngojhnleaa.Ld Go.Proofs.Ytekakngojhnleaa.Le Go.Proofs.Ytekakngojhnleaa.Dw Go.Proofs.Ytekakngojhnleaa.Xa Go.Proofs.Ytekakngojhnleaa.Xb Go.Proofs.Ytekakngojhnleaa.Xc Go.Proofs.YtekakngojhnleaaW.PrintWords Go.Proofs.YtekakngojhnleaaW.PrintLast Go.Proofs.YtekakngojhnleaaW.PrintMore
set_option linter.unusedVariables false
set_option linter.unusedSimpArgs false
variable {w w' : World} {B N p : Nat} {S : Nat → Prop} {σ : Lk}

set_option maxRecDepth 100000 in
set_option maxHeartbeats 1000000 in
theorem rin_no (h : DP w B N S p σ) (A : Option Addr) (c : Nat) (l : List Int) (hr : Kd.C (Kd.int .u8) w A l.length l) (hc : l.length ≤ c) (hl : l.length ≤ 140737488351232) (hb : ∀ x ∈ l, 0 ≤ x ∧ x < 256) (hE : (decA l).2 ≠ 0 ∨ (decA l).1.2.2.1 > (σ.sent : Int)) :
    Calls Try.prog 36 #[.pointer (some ⟨p, 0, none⟩), .slice A l.length c] w fun e w' => e = .returned (.int .i64 14) ∧ Below w.heap.size w w' := by
  obtain ⟨F, E, hd⟩ : ∃ F E, decA l = (F, E) := ⟨_, _, rfl⟩
  rw [hd] at hE
  obtain ⟨vt, va, vh, hx⟩ := h
  have H := Aside0.mk hx
  have HR := Aside0.mk hr
  have HB := Aside0.mk hb
  have HD := Aside0.mk hd
  clear hx hr hb hd
  go_enter Try.func36, Try.ntmps36
  go_wp2_with fail
  refine (refdecode_calls A c l _ HR.out hc hl HB.out F E HD.out).mono ?_
  rintro e w1 ⟨V, rfl, ho, hb1⟩
  obtain ⟨A1, c1, rfl⟩ := Kd.R_slice ho
  have HB1 := Aside0.mk hb1
  have hbl1 := blk_below H.out.blk hb1
  have d3 : (w1.alloc (.cells #[.bool F.1, .int .i64 F.2.1, .int .i64 F.2.2.1, .slice A1 F.2.2.2.length c1] 53)).cell? ⟨p, 3, none⟩ = some (.int .i64 (σ.sent : Int)) := blk_cell (blk_below hbl1 (below_alloc (Below.refl _ w1) _)) 3
  have x2 : (w1.alloc (.cells #[.bool F.1, .int .i64 F.2.1, .int .i64 F.2.2.1, .slice A1 F.2.2.2.length c1] 53)).cell? ⟨w1.heap.size, 2, none⟩ = some (.int .i64 F.2.2.1) := blk_cell (blk_new w1 _) 2
  clear ho hb1 hbl1
  by_cases hE0 : E = 0
  · subst hE0
    have hgt : (σ.sent : Int) < F.2.2.1 := by rcases hE with h | h; exact absurd rfl h; exact h
    clear hE
    go_wp2_with fail
    go_region
    all_goals go_wp2_with fail
    all_goals go_ret
    all_goals exact ⟨rfl, HB1.out.trans ((below_drew (below_alloc (Below.refl _ w1) _)).mono HB1.out.size)⟩
  · have hE1 : (E != 0) = true := by rw [bne_iff_ne]; exact hE0
    clear hE hE0
    go_wp2_with fail
    go_region
    all_goals go_wp2_with fail
    all_goals go_ret
    all_goals exact ⟨rfl, HB1.out.trans ((below_drew (below_alloc (Below.refl _ w1) _)).mono HB1.out.size)⟩
/-- What stands while a frame is taken: the end, the frame's own block, its body. -/
structure MidD (w u : World) (B N : Nat) (S : Nat → Prop) (p g : Nat) (σ : Lk) (d : Bool) (s a : Int) (A1 : Option Addr) (c1 : Nat) (l : List Int) : Prop where
  lp : ∃ S', DP u B N S' p σ ∧ FrL B S S' w u
  fr : u.heap[g]? = some (.cells #[.bool d, .int .i64 s, .int .i64 a, .slice A1 l.length c1] 53 (0, 0))
  bd : Bd u B (encH ⟨A1, l.length, c1⟩) l
section
variable {u u' w1 : World} {g : Nat} {d : Bool} {s a : Int} {A1 : Option Addr} {c1 : Nat} {m : List Int} {vt va vh : Value}
theorem midD0 (h : DPx w B N S p σ vt va vh) (hb : Below w.heap.size w w1) (hbd : Bd w1 B (encH ⟨A1, m.length, c1⟩) m) (d : Bool) (s' a : Int) :
    MidD w (w1.alloc (.cells #[.bool d, .int .i64 s', .int .i64 a, .slice A1 m.length c1] 53)).drew B N S p w1.heap.size σ d s' a A1 c1 m := by
  have hb1 : Below w1.heap.size w1 (w1.alloc (.cells #[.bool d, .int .i64 s', .int .i64 a, .slice A1 m.length c1] 53)).drew := below_drew (below_alloc (Below.refl _ w1) _)
  have hb2 := hb.trans (hb1.mono hb.size)
  exact ⟨⟨S, ⟨vt, va, vh, h.below hb2⟩, h.fr hb2⟩, blk_new w1 _, hbd.keep (Keep5.below hb1)⟩
theorem MidD.below (h : MidD w u B N S p g σ d s a A1 c1 m) (hb : Below u.heap.size u u') : MidD w u' B N S p g σ d s a A1 c1 m := by
  obtain ⟨⟨S1, ⟨vt, va, vh, hx⟩, hf⟩, hfr, hbd⟩ := h
  exact ⟨⟨S1, ⟨_, _, _, hx.below hb⟩, FrL.trans hf (hx.fr hb)⟩, blk_below hfr hb, hbd.keep (Keep5.below hb)⟩
theorem MidD.pg (h : MidD w u B N S p g σ d s a A1 c1 m) : p ≠ g := fun e => by
  obtain ⟨⟨S1, ⟨vt, va, vh, hx⟩, hf⟩, hfr, hbd⟩ := h
  have hb := hx.blk
  rw [e, hfr] at hb
  cases hb
theorem MidD.put (h : MidD w u B N S p g σ d s a A1 c1 m) (j : Nat) (v : Value) (σ' : Lk) (hc : ∀ vt va vh, (cellsD σ vt va vh).setIfInBounds j v = cellsD σ' vt va vh) (ht : σ'.took = σ.took) (ha : σ'.all = σ.all) (hh : σ'.hold = σ.hold) :
    MidD w (u.setCell ⟨p, j, none⟩ v) B N S p g σ' d s a A1 c1 m := by
  have hpg := h.pg
  obtain ⟨⟨S1, ⟨vt, va, vh, hx⟩, hf⟩, hfr, hbd⟩ := h
  obtain ⟨e1, e2⟩ := hx.put j v σ' (hc _ _ _) ht ha hh
  exact ⟨⟨S1, ⟨_, _, _, e1⟩, FrL.trans hf e2⟩, by rw [Below.heap_setCell _ _ _ _ (fun e => hpg e.symm)]; exact hfr, hbd.keep e2.k5⟩
end
theorem info122 : (Try.prog.info? 122).map (fun i => (i.zero, i.size, i.bytes)) = some (some (.agg #[.int .i64 0, .slice none 0 0]), 2, 32) := by kernel_rfl
/-- The loop that takes what comes in its turn. -/
structure LpD (w wr : World) (B N : Nat) (S : Nat → Prop) (p : Nat) (σ : Lk) (k : Nat) (h : Int → Option (List Int)) (al : List (List Int)) : Prop where
  lp : ∃ S', DP wr B N S' p { σ with hold := h, all := al } ∧ FrL B S S' w wr
  pl : pull k h al = pull 17 σ.hold σ.all
  hw : HW h al ((σ.all.length : Int) + 16)
  top : σ.all.length + 16 ≤ al.length + k
  ln : σ.all.length ≤ al.length
theorem lpD_next {wr u : World} {k : Nat} {h : Int → Option (List Int)} {al : List (List Int)} {l : List Int} (hL : LpD w wr B N S p σ k h al) (he : h (al.length : Int) = some l) {S1 : Nat → Prop} (hx : DP u B N S1 p { σ with hold := setH h (al.length : Int) none, all := al ++ [l] }) (hf : FrL B S S1 w u) :
    ∃ k', LpD w u B N S p σ k' (setH h (al.length : Int) none) (al ++ [l]) := by
  have hlt := (hL.hw.1 _ _ he).2.1
  have htop := hL.top
  have hlen : (al ++ [l]).length = al.length + 1 := by simp
  obtain ⟨k', rfl⟩ : ∃ k', k = k' + 1 := ⟨k - 1, by omega⟩
  refine ⟨k', ⟨S1, hx, hf⟩, ?_, ⟨fun x l' hx' => ?_, fun l' hl' => ?_⟩, by rw [hlen]; omega, by rw [hlen]; have := hL.ln; omega⟩
  · rw [← hL.pl]
    conv => rhs; unfold pull
    rw [he]
  · unfold setH at hx'
    by_cases e : x = (al.length : Int)
    · rw [if_pos e] at hx'; cases hx'
    · rw [if_neg e] at hx'
      have := hL.hw.1 x l' hx'
      rw [hlen]
      exact ⟨by omega, this.2⟩
  · rcases List.mem_append.1 hl' with h1 | h1
    · exact hL.hw.2 l' h1
    · rw [List.mem_singleton] at h1; subst h1; exact (hL.hw.1 _ _ he).2.2
theorem less_end {vt va vh v9 : Value} {u w9 : World} {hs : List Hm} {hold : Int → Option (List Int)} {M : Nat} (h : DPx u B N S p σ vt va vh) (hH : HeldD u B hs hold) (hM : hs.length ≤ M) (hq9 : kM.R 122 w9 u.heap.size (fun _ => True) v9 hs) (hb9 : Below u.heap.size u w9) :
    w9.heap[p]? = some (.cells (cellsD σ vt va vh) 67 (0, 0)) ∧ DPx (w9.setCell ⟨p, 6, none⟩ v9) B M (fun k => S k ∨ v9.ownBlock = some k) p { σ with hold := hold } vt va v9 ∧ FrL B S (fun k => S k ∨ v9.ownBlock = some k) u (w9.setCell ⟨p, 6, none⟩ v9) := by
  refine DPx.holds h (row := none) (.inr rfl) hH hM (Kd.R_mono (Kd.R_lower (Kd.R_tight rfl hq9) h.bsz) (fun k hk => .inr (Kd.R_base hq9 k hk.symm))) (grown_of_below hb9 none) ?_
  cases e : v9.ownBlock with
  | none => exact .inl rfl
  | some k => exact .inr ⟨k, rfl, Kd.R_base hq9 k e⟩
def lenOf : Value → Nat
  | .slice _ n _ => n
  | _ => 0
theorem dmeas {w1 w2 : World} {q : Addr} {n1 n2 a t : Nat} {A A' : Option Addr} {c c' : Nat} (h1 : w1.cell? q = some (.slice A (n1 + 1) c)) (h2 : w2.cell? q = some (.slice A' n2 c')) (h : n1 = n2 ∧ n2 = a) (ht : a < t) : t - lenOf ((w1.cell? q).getD undef) < t - lenOf ((w2.cell? q).getD undef) := by
  rw [h1, h2]
  simp only [Option.getD_some, lenOf]
  omega
set_option maxRecDepth 100000 in
set_option maxHeartbeats 2000000 in
theorem rin_yes (h : DP w B N S p σ) {M : Nat} (hI : Inv M σ) (hM : M ≤ 1000000) (hNm : N ≤ 500000) (A : Option Addr) (c : Nat) (l : List Int) (hr : Kd.C (Kd.int .u8) w A l.length l) (hc : l.length ≤ c) (hl : l.length ≤ 140737488351232) (hb : ∀ x ∈ l, 0 ≤ x ∧ x < 256) (hE : (decA l).2 = 0) (hA : (decA l).1.2.2.1 ≤ (σ.sent : Int)) :
    Calls Try.prog 36 #[.pointer (some ⟨p, 0, none⟩), .slice A l.length c] w fun e w' => e = .returned (.int .i64 (inL σ l).1) ∧ ∃ S', DP w' B (N + 1) S' p (inL σ l).2 ∧ FrL B S S' w w' := by
  obtain ⟨R, hR⟩ : ∃ R, R = inL σ l := ⟨_, rfl⟩
  rw [← hR]
  unfold inL at hR
  rw [if_neg (by omega)] at hR
  have hnn := dec_nums l hE
  have hok := dec_ok l hb hE
  obtain ⟨F, E, hd⟩ : ∃ F E, decA l = (F, E) := ⟨_, _, rfl⟩
  rw [hd] at hE hA hR hnn hok
  obtain ⟨d, s, a', m⟩ := F
  obtain rfl : E = 0 := hE
  change a' ≤ (σ.sent : Int) at hA
  obtain ⟨n0, n1, n2, n3⟩ := hnn
  change 0 ≤ s at n0; change s ≤ 1073741824 at n1; change 0 ≤ a' at n2; change a' ≤ 1073741824 at n3; change okB m at hok
  obtain ⟨a, rfl⟩ : ∃ k : Nat, a' = (k : Int) := ⟨a'.toNat, by omega⟩
  simp only [Int.toNat_natCast] at hR
  obtain ⟨vt, va, vh, hx⟩ := h
  have HN := Aside0.mk (And.intro n0 n1)
  have HI := Aside0.mk (And.intro hI hM)
  have HOK := Aside0.mk hok
  have HBW := Aside0.mk hx.bsz
  have H := Aside0.mk hx
  have HR := Aside0.mk hr
  have HB := Aside0.mk hb
  have HD := Aside0.mk hd
  have HRR := Aside0.mk hR
  clear hx hr hb hd hI hM n0 n1 hok hR
  go_enter Try.func36, Try.ntmps36
  go_wp2_with fail
  refine (refdecode_calls A c l _ HR.out hc hl HB.out _ _ HD.out).mono ?_
  rintro e w1 ⟨V, rfl, ho, hb1⟩
  obtain ⟨A1, c1, rfl⟩ := Kd.R_slice ho
  have HB1 := Aside0.mk hb1
  have HBD := Aside0.mk (show Bd w1 B (encH ⟨A1, m.length, c1⟩) m from Bd.of ho HBW.out)
  have hbl1 := blk_below H.out.blk hb1
  have d3 : (w1.alloc (.cells #[.bool d, .int .i64 s, .int .i64 (a : Int), .slice A1 m.length c1] 53)).cell? ⟨p, 3, none⟩ = some (.int .i64 (σ.sent : Int)) := blk_cell (blk_below hbl1 (below_alloc (Below.refl _ w1) _)) 3
  have x2 : (w1.alloc (.cells #[.bool d, .int .i64 s, .int .i64 (a : Int), .slice A1 m.length c1] 53)).cell? ⟨w1.heap.size, 2, none⟩ = some (.int .i64 (a : Int)) := blk_cell (blk_new w1 _) 2
  clear ho hb1 hbl1
  have hA2 : decide (σ.sent < a) = false := decide_eq_false (by omega)
  have HA := Aside0.mk hA
  clear hA n2 n3
  go_wp2_with fail
  go_region
  clear d3 x2
  go_wp2_with fail
  have HMID := Aside0.mk (midD0 H.out HB1.out HBD.out d s (a : Int))
  clear HBD HB1
  generalize hu : (w1.alloc (.cells #[.bool d, .int .i64 s, .int .i64 (a : Int), .slice A1 m.length c1] 53)).drew = u at HMID ⊢
  clear hu
  obtain ⟨g, hg⟩ : ∃ g, g = w1.heap.size := ⟨_, rfl⟩
  rw [← hg] at HMID ⊢
  clear hg w1 hA2
  obtain ⟨gt, hgt⟩ : ∃ gt, gt = decide (σ.sure < a) := ⟨_, rfl⟩
  have HGT := Aside0.mk hgt
  clear hgt
  go_cut [30] from 24 to 29 (fun v30 wx => v30 = .bool gt ∧ Aside0 (MidD w wx B N S p g σ d s (a : Int) A1 c1 m))
  case first =>
    clear H
    obtain ⟨⟨S1, ⟨vt, va, vh, hx⟩, hfr⟩, hblk, hbd⟩ := HMID.out
    have f2 : u.cell? ⟨g, 2, none⟩ = some (.int .i64 a) := blk_cell hblk 2
    have p2 : u.cell? ⟨p, 2, none⟩ = some (.int .i64 (σ.sure : Int)) := blk_cell hx.blk 2
    clear hx hfr hblk hbd
    by_cases has : σ.sure < a
    · have e1 : decide ((σ.sure : Int) < (a : Int)) = true := decide_eq_true (by omega)
      have e2 : decide (σ.sure < a) = true := decide_eq_true has
      go_region
      all_goals go_wp2_with fail
      all_goals go_meet
      case rel => exact ⟨by rw [HGT.out, e2], ⟨HMID.out.below (below_drew (Below.refl _ _))⟩⟩
    · have e1 : decide ((σ.sure : Int) < (a : Int)) = false := decide_eq_false (by omega)
      have e2 : decide (σ.sure < a) = false := decide_eq_false has
      go_region
      all_goals go_wp2_with fail
      all_goals go_meet
      case rel => exact ⟨by rw [HGT.out, e2], ⟨HMID.out.below (below_drew (Below.refl _ _))⟩⟩
  case rest =>
    obtain ⟨rfl, HM1⟩ := hcut
    clear HMID
    go_upto_if 30 with fail
    go_cut [] from 31 to 35 (fun wx => Aside0 (MidD w wx B N S p g { σ with sure := max σ.sure a } d s (a : Int) A1 c1 m))
    case first =>
      clear H
      cases gt with
      | true =>
        obtain ⟨⟨S1, ⟨vt, va, vh, hx⟩, hfr⟩, hblk, hbd⟩ := HM1.out
        have f2 : wc.cell? ⟨g, 2, none⟩ = some (.int .i64 a) := blk_cell hblk 2
        have p2 : wc.cell? ⟨p, 2, none⟩ = some (.int .i64 (σ.sure : Int)) := blk_cell hx.blk 2
        have z2 : wc.frozen? ⟨p, 2, none⟩ = false := blk_frozen hx.blk 2
        clear hx hfr hblk hbd
        go_wp2_with fail
        all_goals go_meet
        case rel =>
          have hsa : σ.sure < a := of_decide_eq_true HGT.out.symm
          exact ⟨HM1.out.put 2 (.int .i64 (a : Int)) { σ with sure := max σ.sure a } (fun _ _ _ => by unfold cellsD; rw [show max σ.sure a = a from Nat.max_eq_right (by omega)]; simp) rfl rfl rfl⟩
      | false =>
        go_wp2_with fail
        all_goals go_meet
        case rel =>
          have hsa : ¬ σ.sure < a := of_decide_eq_false HGT.out.symm
          rw [show max σ.sure a = σ.sure from Nat.max_eq_left (by omega)]
          exact HM1
    case rest =>
      have HM2 := hcut
      clear hcut HM1 HR HB HD H HGT
      obtain ⟨σ1, hσ1⟩ : ∃ σ1, σ1 = { σ with sure := max σ.sure a } := ⟨_, rfl⟩
      have hI1 : Lp.Inv M σ1 := by
        rw [hσ1]
        have hI := HI.out.1
        have := HA.out
        have e0 := hI.s0
        have e1 := hI.s2
        have e2 := hI.s3
        have e3 : σ.sure ≤ max σ.sure a := Nat.le_max_left _ _
        refine ⟨hI.w0, hI.w1, Nat.max_le.2 ⟨e0, by show a ≤ σ.sent; omega⟩, hI.s1, ?_, ?_, hI.tk, hI.tl, hI.al, hI.ht, hI.ha, hI.hh⟩
        · show σ.sent ≤ max _ _ + σ.window; omega
        · show σ.took.length ≤ max _ _ + 64; omega
      have hR1 : R = if d = false then (0, σ1) else (0, { σ1 with owes := true, hold := (pull 17 (takeH σ1 s m) σ1.all).1, all := (pull 17 (takeH σ1 s m) σ1.all).2 }) := by rw [HRR.out, hσ1]; rfl
      have HR1 := Aside0.mk hR1
      have HI1 := Aside0.mk hI1
      rw [← hσ1] at HM2
      have HM9 := Aside0.mk HI.out.2
      clear hσ1 HRR HA hR1 hI1 HI
      have d0 : wc.cell? ⟨g, 0, none⟩ = some (.bool d) := blk_cell HM2.out.fr 0
      cases d with
      | false =>
        go_wp2_with fail
        go_ret
        rw [HR1.out]
        obtain ⟨S1, h1, h2⟩ := HM2.out.lp
        exact ⟨rfl, S1, h1.mono (Nat.le_succ _), h2⟩
      | true =>
        have p7 : wc.cell? ⟨p, 7, none⟩ = some (.bool σ1.owes) := by obtain ⟨S1, ⟨vt, va, vh, hx⟩, _⟩ := HM2.out.lp; exact blk_cell hx.blk 7
        have z7 : wc.frozen? ⟨p, 7, none⟩ = false := by obtain ⟨S1, ⟨vt, va, vh, hx⟩, _⟩ := HM2.out.lp; exact blk_frozen hx.blk 7
        go_wp2_with fail
        obtain ⟨σ2, hσ2⟩ : ∃ σ2, σ2 = { σ1 with owes := true } := ⟨_, rfl⟩
        have HM3 := Aside0.mk (HM2.out.put 7 (.bool true) { σ1 with owes := true } (fun _ _ _ => by unfold cellsD; simp) rfl rfl rfl)
        rw [← hσ2] at HM3
        have hI2 : Lp.Inv M σ2 := by rw [hσ2]; have hI := HI1.out; exact ⟨hI.w0, hI.w1, hI.s0, hI.s1, hI.s2, hI.s3, hI.tk, hI.tl, hI.al, hI.ht, hI.ha, hI.hh⟩
        have hR2 : R = (0, { σ2 with hold := (pull 17 (takeH σ2 s m) σ2.all).1, all := (pull 17 (takeH σ2 s m) σ2.all).2 }) := by rw [HR1.out, if_neg (by simp), hσ2]; rfl
        have HR2 := Aside0.mk hR2
        have HI2 := Aside0.mk hI2
        clear HM2 d0 p7 z7 hσ2 HR1 HI1 hR2 hI2
        generalize hu2 : wc.setCell ⟨p, 7, none⟩ (.bool true) = u2 at HM3 ⊢
        clear hu2
        obtain ⟨tk, htk⟩ : ∃ tk : Bool, tk = decide ((σ2.hold s).isSome = false ∧ (σ2.all.length : Int) ≤ s ∧ s < (σ2.all.length : Int) + 16) := ⟨_, rfl⟩
        have HTK := Aside0.mk htk
        clear htk
        obtain ⟨⟨S1, ⟨vt, va, vh, hx⟩, hfr⟩, hblk, hbd⟩ := HM3.out
        have HX3 := Aside0.mk hx
        have HFR3 := Aside0.mk hfr
        have HBK3 := Aside0.mk hblk
        have HBD3 := Aside0.mk hbd
        clear hx hfr hblk hbd HM3
        go_cut [67] from 42 to 66 (fun v67 wx => v67 = .bool tk ∧ Aside0 (Below u2.heap.size u2 wx))
        case first =>
          obtain ⟨ha, hra, hba⟩ := HX3.out.a
          obtain ⟨A0, c0, hva⟩ := Kd.R_slice hra
          obtain ⟨hs, hrm, hhd, hhn⟩ := HX3.out.h
          have hlen : ha.length = σ2.all.length := hba.1
          rw [hlen] at hva
          have p4 : u2.cell? ⟨p, 4, none⟩ = some (.slice A0 σ2.all.length c0) := by rw [← hva]; exact blk_cell HX3.out.blk 4
          have g1 : u2.cell? ⟨g, 1, none⟩ = some (.int .i64 s) := blk_cell HBK3.out 1
          have hw16 : wrap64 ((σ2.all.length : Int) + 16) = (σ2.all.length : Int) + 16 := by have := HI2.out.al; have := HM9.out; unfold wrap64; omega
          have HFN := Aside0.mk (fun n : Nat => show Calls Try.prog 72 #[.pointer (some ⟨p, 0, none⟩), .int .i64 s] (u2.drewN n) fun e w' => e = .returned (.int .i64 (fnd hs s)) ∧ w' = u2.drewN n from find_calls (blk_below HX3.out.blk (pw_below_drewN (Below.refl u2.heap.size u2) n)) (Kd.R_below hrm (pw_below_drewN (Below.refl u2.heap.size u2) n)) (by omega) s)
          have htk := HTK.out
          obtain ⟨n3, hn3⟩ : ∃ n3, n3 = σ2.all.length := ⟨_, rfl⟩
          rw [← hn3] at p4 hw16 htk
          by_cases hgs : (n3 : Int) ≤ s
          · have hgd1 : decide ((n3 : Int) ≤ s) = true := decide_eq_true hgs
            by_cases hlt : s < (n3 : Int) + 16
            · have hgd2 : decide (s < (n3 : Int) + 16) = true := decide_eq_true hlt
              have hfc := fnd_cases hs s
              have hof := hhd.of s
              obtain ⟨r, hr⟩ : ∃ r, r = fnd hs s := ⟨_, rfl⟩
              rw [← hr] at HFN hfc
              by_cases hr0 : r < 0
              · have hgd3 : decide (r < 0) = true := decide_eq_true hr0
                have ht1 : tk = true := by
                  rw [htk]
                  refine decide_eq_true ⟨?_, hgs, hlt⟩
                  rcases hfc with ⟨i, hi, e1, e2⟩ | ⟨e1, e2⟩
                  · omega
                  · cases hy : σ2.hold s with
                    | none => rfl
                    | some y => rw [hy] at hof; obtain ⟨b, hb, _⟩ := hof; exact absurd hb (e2 b)
                subst ht1
                clear hr0 hfc hof hgs hlt htk HTK hra hba hva hrm hhd hhn hlen hn3 hr
                go_quiet ((exact Calls.quiet_of_same (HFN.out _)))
                go_wp2_with fail
                all_goals go_meet
                case rel => exact ⟨rfl, ⟨pw_below_drewN (Below.refl _ _) _⟩⟩
              · have hgd3 : decide (r < 0) = false := decide_eq_false hr0
                have ht1 : tk = false := by
                  rw [htk]
                  refine decide_eq_false (fun h => ?_)
                  rcases hfc with ⟨i, hi, e1, e2⟩ | ⟨e1, e2⟩
                  · obtain ⟨y, hy, _⟩ := hhd.here hi
                    rw [e2] at hy
                    rw [hy] at h
                    cases h.1
                  · omega
                subst ht1
                clear hr0 hfc hof hgs hlt htk HTK hra hba hva hrm hhd hhn hlen hn3 hr
                go_quiet ((exact Calls.quiet_of_same (HFN.out _)))
                go_wp2_with fail
                all_goals go_meet
                case rel => exact ⟨rfl, ⟨pw_below_drewN (Below.refl _ _) _⟩⟩
            · have hgd2 : decide (s < (n3 : Int) + 16) = false := decide_eq_false hlt
              have ht1 : tk = false := by rw [htk]; exact decide_eq_false (fun e => hlt e.2.2)
              subst ht1
              clear hgs hlt htk HTK hra hba hva hrm hhd hhn hlen hn3 HFN
              go_quiet (fail)
              go_wp2_with fail
              all_goals go_meet
              case rel => exact ⟨rfl, ⟨pw_below_drewN (Below.refl _ _) _⟩⟩
          · have hgd1 : decide ((n3 : Int) ≤ s) = false := decide_eq_false hgs
            have ht1 : tk = false := by rw [htk]; exact decide_eq_false (fun e => hgs e.2.1)
            subst ht1
            clear hgs htk HTK hra hba hva hrm hhd hhn hlen hn3 HFN hw16
            go_quiet (fail)
            go_wp2_with fail
            all_goals go_meet
            case rel => exact ⟨rfl, ⟨pw_below_drewN (Below.refl _ _) _⟩⟩
        case rest =>
          obtain ⟨rfl, HB4⟩ := hcut
          have HX4 := Aside0.mk (HX3.out.below HB4.out)
          have HFR4 := Aside0.mk (FrL.trans HFR3.out (HX3.out.fr HB4.out))
          have HBK4 := Aside0.mk (blk_below HBK3.out HB4.out)
          have HBD4 := Aside0.mk (HBD3.out.keep (Keep5.below HB4.out))
          clear HB4 HX3 HFR3 HBK3 HBD3
          go_upto_if 67 with fail
          go_cut [] from 68 to 81 (fun wx => Aside0 (∃ S', DP wx B (N + 1) S' p { σ2 with hold := takeH σ2 s m } ∧ FrL B S S' w wx))
          case first =>
            cases tk with
            | false =>
              have hc : takeH σ2 s m = σ2.hold := if_neg (of_decide_eq_false HTK.out.symm)
              go_wp2_with fail
              all_goals go_meet
              case rel =>
                rw [hc]
                exact ⟨⟨_, ⟨_, _, _, HX4.out.mono (Nat.le_succ _)⟩, HFR4.out⟩⟩
            | true =>
              have hcc := of_decide_eq_true HTK.out.symm
              have HC := Aside0.mk (show takeH σ2 s m = setH σ2.hold s (some m) from if_pos hcc)
              have hno : σ2.hold s = none := by cases hy : σ2.hold s with
                | none => rfl
                | some y => rw [hy] at hcc; cases hcc.1
              have hbd := below_drew (Below.refl wc.heap.size wc)
              have HFd := Aside0.mk (FrL.trans HFR4.out (HX4.out.fr hbd))
              have hxd := HX4.out.below hbd
              have HBKd := Aside0.mk (blk_below HBK4.out hbd)
              have hbdd := HBD4.out.keep (Keep5.below hbd)
              obtain ⟨hs, hrm, hhd, hhn⟩ := hxd.h
              obtain ⟨Ah, ch, rfl⟩ := Kd.R_slice hrm
              obtain ⟨nh, hnh⟩ : ∃ nh, nh = hs.length := ⟨_, rfl⟩
              rw [← hnh] at hxd hrm
              have HXd := Aside0.mk hxd
              have HRM := Aside0.mk hrm
              have HMO := Aside0.mk (hhd.more (a := ⟨A1, m.length, c1⟩) hno hbdd)
              have HLM := Aside0.mk (show (hs ++ [((s, ⟨A1, m.length, c1⟩) : Hm)]).length ≤ N + 1 by simp; exact hhn)
              have HLN := Aside0.mk (show (hs.length + 1) * 32 ≤ 140737488355328 by omega)
              have HS0 : wc.drew.cell? ⟨p, 6, none⟩ = some (.slice Ah nh ch) ∧ wc.drew.cell? ⟨g, 1, none⟩ = some (.int .i64 s) ∧ wc.drew.cell? ⟨g, 3, none⟩ = some (.slice A1 m.length c1) := ⟨blk_cell hxd.blk 6, blk_cell HBKd.out 1, blk_cell HBKd.out 3⟩
              clear hbd hxd hrm hhd hhn hnh hno hcc hbdd HX4 HFR4 HBK4 HBD4
              go_wp2_with fail
              refine start_ (n := 15) (S := fun w' => w'.cell? ⟨p, 6, none⟩ = some (.slice Ah nh ch) ∧ w'.cell? ⟨g, 1, none⟩ = some (.int .i64 s) ∧ w'.cell? ⟨g, 3, none⟩ = some (.slice A1 m.length c1)) (ds := [14]) #[false, false, false, false, false, false, false, false, false, false, false, false, false, false, false] (by kernel_rfl) rfl rfl HS0 (fun hHeld => ?_)
              refine pure_ (i := 0) (N := some 68) (v := ?_) (a' := ?_) #[true, false, false, false, false, false, false, false, false, false, false, false, false, false, false] rfl rfl (by kernel_rfl) (fun _ _ _ h => h) (Or.inl ⟨by rfl, ?_⟩) ?_ ?_
              rotate_left
              · intro w'
                go_simp
                try with_reducible rfl
              rotate_left
              · simp only [Act.put, List.setIfInBounds_toArray, List.set_cons_zero, List.set_cons_succ, i64_w, i32_w]
                rfl
              refine pure_ (i := 1) (N := some 69) (v := ?_) (a' := ?_) #[true, true, false, false, false, false, false, false, false, false, false, false, false, false, false] rfl rfl (by kernel_rfl) (fun _ _ _ h => h) (Or.inl ⟨by rfl, ?_⟩) ?_ ?_
              rotate_left
              · intro w'
                go_simp
                try with_reducible rfl
              rotate_left
              · simp only [Act.put, List.setIfInBounds_toArray, List.set_cons_zero, List.set_cons_succ, i64_w, i32_w]
                rfl
              refine pure_ (i := 2) (N := some 70) (v := ?_) (a' := ?_) #[true, true, true, false, false, false, false, false, false, false, false, false, false, false, false] rfl rfl (by kernel_rfl) (fun _ _ _ h => h) (Or.inl ⟨by rfl, ?_⟩) ?_ ?_
              rotate_left
              · intro w'
                go_simp
                try with_reducible rfl
              rotate_left
              · simp only [Act.put, List.setIfInBounds_toArray, List.set_cons_zero, List.set_cons_succ, i64_w, i32_w]
                rfl
              refine pure_ (i := 3) (N := some 71) (v := ?_) (a' := ?_) #[true, true, true, true, false, false, false, false, false, false, false, false, false, false, false] rfl rfl (by kernel_rfl) (fun _ _ _ h => h) (Or.inl ⟨by rfl, ?_⟩) ?_ ?_
              rotate_left
              · intro w'
                go_simp
                try with_reducible rfl
              rotate_left
              · simp only [Act.put, List.setIfInBounds_toArray, List.set_cons_zero, List.set_cons_succ, i64_w, i32_w]
                rfl
              refine pure_ (i := 5) (N := some 73) (v := ?_) (a' := ?_) #[true, true, true, true, false, true, false, false, false, false, false, false, false, false, false] rfl rfl (by kernel_rfl) (fun _ _ _ h => h) (Or.inl ⟨by rfl, ?_⟩) ?_ ?_
              rotate_left
              · intro w'
                go_simp
                try with_reducible rfl
              rotate_left
              · simp only [Act.put, List.setIfInBounds_toArray, List.set_cons_zero, List.set_cons_succ, i64_w, i32_w]
                rfl
              refine pure_ (i := 7) (N := some 75) (v := ?_) (a' := ?_) #[true, true, true, true, false, true, false, true, false, false, false, false, false, false, false] rfl rfl (by kernel_rfl) (fun _ _ _ h => h) (Or.inl ⟨by rfl, ?_⟩) ?_ ?_
              rotate_left
              · intro w'
                go_simp
                try with_reducible rfl
              rotate_left
              · simp only [Act.put, List.setIfInBounds_toArray, List.set_cons_zero, List.set_cons_succ, i64_w, i32_w]
                rfl
              refine take_ (i := 4) (N := some 72) (v := ?_) (a' := ?_) #[true, true, true, true, true, true, false, true, false, false, false, false, false, false, false] rfl rfl (by kernel_rfl) (fun _ _ _ h => h) (Or.inl ⟨by rfl, ?_⟩) hHeld ?_ ?_
              rotate_left
              · rintro w' ⟨q1, q2, q3⟩
                go_simp
                try with_reducible rfl
              rotate_left
              · simp only [Act.put, List.setIfInBounds_toArray, List.set_cons_zero, List.set_cons_succ, i64_w, i32_w]
                rfl
              refine take_ (i := 6) (N := some 74) (v := ?_) (a' := ?_) #[true, true, true, true, true, true, true, true, false, false, false, false, false, false, false] rfl rfl (by kernel_rfl) (fun _ _ _ h => h) (Or.inl ⟨by rfl, ?_⟩) hHeld ?_ ?_
              rotate_left
              · rintro w' ⟨q1, q2, q3⟩
                go_simp
                try with_reducible rfl
              rotate_left
              · simp only [Act.put, List.setIfInBounds_toArray, List.set_cons_zero, List.set_cons_succ, i64_w, i32_w]
                rfl
              refine take_ (i := 8) (N := some 76) (v := ?_) (a' := ?_) #[true, true, true, true, true, true, true, true, true, false, false, false, false, false, false] rfl rfl (by kernel_rfl) (fun _ _ _ h => h) (Or.inl ⟨by rfl, ?_⟩) hHeld ?_ ?_
              rotate_left
              · rintro w' ⟨q1, q2, q3⟩
                go_simp
                try with_reducible rfl
              rotate_left
              · simp only [Act.put, List.setIfInBounds_toArray, List.set_cons_zero, List.set_cons_succ, i64_w, i32_w]
                rfl
              refine pure_ (i := 9) (N := some 77) (v := ?_) (a' := ?_) #[true, true, true, true, true, true, true, true, true, true, false, false, false, false, false] rfl rfl (by kernel_rfl) (fun _ _ _ h => h) (Or.inl ⟨by rfl, ?_⟩) ?_ ?_
              rotate_left
              · intro w'
                go_simp
                try with_reducible rfl
              rotate_left
              · simp only [Act.put, List.setIfInBounds_toArray, List.set_cons_zero, List.set_cons_succ, i64_w, i32_w]
                rfl
              refine one_ (i := 10) (N := some 78) #[true, true, true, true, true, true, true, true, true, true, true, false, false, false, false] rfl rfl (by kernel_rfl) (by decide) (fun K hK => ?_)
              refine value_ (w1 := wc.drew.alloc (.cells #[.int .i64 s, .slice A1 m.length c1] 122)) (v := .slice (some ⟨wc.heap.size, 0, none⟩) 1 1) (by rfl) rfl (by first | (go_simp; done) | (go_simp; rfl)) ?_
              refine hK.out _ _ ⟨pw_cell_below (below_alloc (Below.refl _ wc.drew) _) HS0.1, pw_cell_below (below_alloc (Below.refl _ wc.drew) _) HS0.2.1, pw_cell_below (below_alloc (Below.refl _ wc.drew) _) HS0.2.2⟩ (fun hHeld => ?_)
              clear hK K
              refine norm_ (a' := ?_) ?_ ?_
              rotate_left
              · show Act.put _ (some 78) _ = _
                simp only [Act.put, List.setIfInBounds_toArray, List.set_cons_zero, List.set_cons_succ, i64_w, i32_w]
                rfl
              refine one_ (i := 11) (N := some 79) #[true, true, true, true, true, true, true, true, true, true, true, true, false, false, false] rfl rfl (by kernel_rfl) (by decide) (fun K hK => ?_)
              refine Kd.R_append_step kM (w0 := wc.drew) B (by rfl) (.tmp 72) (.tmp 78) 65 122 (.agg #[.int .i64 0, .slice none 0 0]) 32 rfl Try.underlying65 info122 rfl (by decide) (by omega) (.slice Ah nh ch) hs (s, ⟨A1, m.length, c1⟩) [.int .i64 s, .slice A1 m.length c1] (fun k => some k = (Value.slice Ah nh ch).ownBlock ∨ wc.drew.heap.size ≤ k) (fun _ => False) rfl rfl ⟨[_], [_], rfl, rfl, rfl⟩ (fun _ hk => hk.elim) (fun k hk => .inr hk) (Kd.R_mono HRM.out (fun k hk => .inl hk)) (Below.refl _ _) HXd.out.bsz HLN.out ?_
              intro v9 w9 hq9 _ hg9 hat9
              obtain ⟨A9, c9, rfl⟩ := Kd.R_slice hq9
              have HEND := Aside0.mk (DPx.holds HXd.out (.inl rfl) HMO.out HLM.out hq9 hg9 hat9)
              have hblk9 := HEND.out.1
              have hgk9 : w9.heap[g]? = some (.cells #[.bool true, .int .i64 s, .int .i64 (a : Int), .slice A1 m.length c1] 53 (0, 0)) := (hg9.block g (blk_lt HBKd.out) (fun e => by
                obtain ⟨cs, hc⟩ := HXd.out.h.typed g e.symm
                rw [HBKd.out] at hc
                cases hc)).trans HBKd.out
              have HS4 : w9.cell? ⟨p, 6, none⟩ = some (.slice Ah nh ch) ∧ w9.cell? ⟨g, 1, none⟩ = some (.int .i64 s) ∧ w9.cell? ⟨g, 3, none⟩ = some (.slice A1 m.length c1) := ⟨blk_cell hblk9 6, blk_cell hgk9 1, blk_cell hgk9 3⟩
              clear hq9 hg9 hat9 hgk9
              refine hK.out _ _ HS4 (fun hHeld => ?_)
              clear hK K
              refine norm_ (a' := ?_) ?_ ?_
              rotate_left
              · show Act.put _ (some 79) _ = _
                simp only [Act.put, List.setIfInBounds_toArray, List.set_cons_zero, List.set_cons_succ, i64_w, i32_w]
                rfl
              refine pure_ (i := 12) (N := some 80) (v := ?_) (a' := ?_) #[true, true, true, true, true, true, true, true, true, true, true, true, true, false, false] rfl rfl (by kernel_rfl) (fun _ _ _ h => h) (Or.inl ⟨by rfl, ?_⟩) ?_ ?_
              rotate_left
              · intro w'
                go_simp
                try with_reducible rfl
              rotate_left
              · simp only [Act.put, List.setIfInBounds_toArray, List.set_cons_zero, List.set_cons_succ, i64_w, i32_w]
                rfl
              refine pure_ (i := 13) (N := some 81) (v := ?_) (a' := ?_) #[true, true, true, true, true, true, true, true, true, true, true, true, true, true, false] rfl rfl (by kernel_rfl) (fun _ _ _ h => h) (Or.inl ⟨by rfl, ?_⟩) ?_ ?_
              rotate_left
              · intro w'
                go_simp
                try with_reducible rfl
              rotate_left
              · simp only [Act.put, List.setIfInBounds_toArray, List.set_cons_zero, List.set_cons_succ, i64_w, i32_w]
                rfl
              have d6 : w9.cell? ⟨p, 6, none⟩ = some (.slice Ah nh ch) := blk_cell hblk9 6
              have z6 : w9.frozen? ⟨p, 6, none⟩ = false := blk_frozen hblk9 6
              refine last_ (i := 14) (N := none) #[true, true, true, true, true, true, true, true, true, true, true, true, true, true, true] rfl rfl (by kernel_rfl) (by decide) (fun K hK => ?_)
              refine skip_ (w1 := w9.setCell ⟨p, 6, none⟩ (.slice A9 (hs ++ [((s, ⟨A1, m.length, c1⟩) : Hm)]).length c9)) (by rfl) rfl (by go_simp) ?_
              refine hK.out _ _ ?_
              clear hK K
              refine done_ (by kernel_rfl) ?_
              go_wp2_with fail
              all_goals go_meet
              case rel =>
                rw [HC.out]
                exact ⟨⟨_, ⟨_, _, _, HEND.out.2.1⟩, FrL.trans HFd.out HEND.out.2.2⟩⟩
          case rest =>
            obtain ⟨σ3, hσ3⟩ : ∃ σ3, σ3 = { σ2 with hold := takeH σ2 s m } := ⟨_, rfl⟩
            have hhw : HW σ3.hold σ3.all ((σ3.all.length : Int) + 16) := by rw [hσ3]; exact takeH_ok HI2.out HOK.out
            have hal := HI2.out.al
            have e1 : σ3.all = σ2.all := by rw [hσ3]
            have hR3 : R = (0, { σ3 with hold := (pull 17 σ3.hold σ3.all).1, all := (pull 17 σ3.hold σ3.all).2 }) := by rw [HR2.out, hσ3]
            rw [← e1] at hal
            rw [← hσ3] at hcut
            have HL0 := Aside0.mk (show LpD w wc B (N + 1) S p σ3 17 σ3.hold σ3.all from ⟨hcut.out, rfl, hhw, by omega, Nat.le_refl _⟩)
            have HR3 := Aside0.mk hR3
            have HAL := Aside0.mk (show σ3.all.length + 16 ≤ 17000016 by have := HM9.out; omega)
            have HNm := Aside0.mk hNm
            clear hσ3 hhw hal e1 hR3 HR2 HI2 HTK HX4 HFR4 HBK4 HBD4 HN HOK hcut hNm
            go_wp2_with fail
            go_loopw [7] (fun u7 wr => ∃ (v : Value) (k : Nat) (h : Int → Option (List Int)) (al : List (List Int)), v = u7 ∧ Aside0 (LpD w wr B (N + 1) S p σ3 k h al)) (fun _ wr => (σ3.all.length + 16) - lenOf ((wr.cell? ⟨p, 4, none⟩).getD undef))
            case atStart => exact ⟨_, _, _, _, rfl, HL0⟩
            case round =>
              clear HL0
              obtain ⟨v, k, h, al, rfl, HL⟩ := hrel
              obtain ⟨S4, ⟨vt, va, vh, hx⟩, hfr⟩ := HL.out.lp
              obtain ⟨ha, hra, hba⟩ := hx.a
              obtain ⟨hs, hrm, hhd, hhn⟩ := hx.h
              obtain ⟨A0, c0, rfl⟩ := Kd.R_slice hra
              obtain ⟨Ah, ch, rfl, hcap, hcr⟩ := Kd.R_reads hrm
              obtain ⟨n4, hn4⟩ : ∃ n4, n4 = al.length := ⟨_, rfl⟩
              have hlen : ha.length = n4 := hba.1.trans hn4.symm
              rw [hlen] at hx hra
              obtain ⟨nh, hnh⟩ : ∃ nh, nh = hs.length := ⟨_, rfl⟩
              rw [← hnh] at hx hrm
              have p4 : wr.cell? ⟨p, 4, none⟩ = some (.slice A0 n4 c0) := blk_cell hx.blk 4
              have HP4 := Aside0.mk p4
              have HFC := Aside0.mk (show Calls Try.prog 72 #[.pointer (some ⟨p, 0, none⟩), .int .i64 (n4 : Int)] wr fun e w' => e = .returned (.int .i64 (fnd hs n4)) ∧ w' = wr from find_calls hx.blk hrm (by have := HNm.out; omega) (n4 : Int))
              have HX := Aside0.mk hx
              have HFR := Aside0.mk hfr
              have HRA0 := Aside0.mk hra
              have HBA0 := Aside0.mk hba
              have HRM0 := Aside0.mk hrm
              have HHD := Aside0.mk hhd
              have HHN := Aside0.mk hhn
              have HCR0 := Aside0.mk (And.intro hcap hcr)
              have HN4 := Aside0.mk (And.intro hn4 (And.intro hlen hnh))
              have HN6 := Aside0.mk (show ha.length = n4 ∧ n4 = al.length from ⟨hlen, hn4⟩)
              clear hx hfr hra hba hrm hhd hhn hcap hcr hn4 hlen hnh
              go_wp2_with fail
              refine HFC.out.mono ?_
              rintro e w' ⟨rfl, hw⟩
              have hw2 := hw.symm
              subst hw2
              clear HFC hw
              rcases fnd_cases hs n4 with ⟨i, hi, e1, e2⟩ | ⟨e1, e2⟩
              · rw [e1]
                have hi0 : ¬ (i : Int) < 0 := by omega
                have hi1 : decide ((i : Int) < 0) = false := decide_eq_false hi0
                obtain ⟨ad, hA, q0, q1⟩ := at_M HCR0.out.2 (i : Int) (by omega) (by omega)
                subst hA
                rw [Int.toNat_natCast, rdM_get hi] at q1
                obtain ⟨l', hl', hbd'⟩ := HHD.out.here hi
                rw [e2] at hl'
                have he : h (al.length : Int) = some l' := by rw [← HN4.out.1]; exact hl'
                obtain ⟨y, hy⟩ : ∃ y, y = (hs[i]'hi).2 := ⟨_, rfl⟩
                rw [← hy] at q1 hbd'
                obtain ⟨a0, m0, k0⟩ := y
                have hil : (i : Int) < (nh : Int) := by have := HN4.out.2.2; omega
                have hiz : (0 : Int) ≤ (i : Int) := by omega
                unfold encH at q1
                have hbd := below_drew (Below.refl wr.heap.size wr)
                have HXd := Aside0.mk (HX.out.below hbd)
                have HFd := Aside0.mk (FrL.trans HFR.out (HX.out.fr hbd))
                have HRA := Aside0.mk (Kd.R_below HRA0.out hbd)
                have HBA := Aside0.mk (HBA0.out.keep (Keep5.below hbd))
                have HBD := Aside0.mk (show Bd wr.drew B (encH ⟨a0, m0, k0⟩) l' from hbd'.keep (Keep5.below hbd))
                have HRMd := Aside0.mk (Kd.R_below HRM0.out hbd)
                have HHDd := Aside0.mk (HHD.out.keep (Keep5.below hbd))
                have HLT := Aside0.mk (show al.length < σ3.all.length + 16 by have := (HL.out.hw.1 _ _ he).2.1; omega)
                have HLN := Aside0.mk (show (ha.length + 1) * 24 ≤ 140737488355328 by have := HLT.out; have := HAL.out; have := HN4.out; omega)
                have HS0 : wr.drew.cell? ⟨p, 4, none⟩ = some (.slice A0 n4 c0) ∧ wr.drew.cell? ⟨p, 6, none⟩ = some (.slice (some ad) nh ch) ∧ wr.drew.cell? ⟨(ad.add (i * 2)).block, (ad.add (i * 2)).off + 1, none⟩ = some (.slice a0 m0 k0) := ⟨p4, blk_cell HX.out.blk 6, q1⟩
                have HE := Aside0.mk he
                have HIH := Aside0.mk (show ∃ hi : i < hs.length, hs[i].1 = (n4 : Int) from ⟨hi, e2⟩)
                have HC0 := HCR0.out.1
                have HCAP := Aside0.mk (show i + 1 ≤ ch ∧ hs.length ≤ ch by omega)
                clear hbd HX HFR HRA0 HBA0 HRM0 HHD HCR0 q0 q1 hl' hbd' he hy hi e1 e2 p4 HC0
                go_wp2_with fail
                clear hi0 hi1
                refine start_ (n := 18) (S := fun w' => w'.cell? ⟨p, 4, none⟩ = some (.slice A0 n4 c0) ∧ w'.cell? ⟨p, 6, none⟩ = some (.slice (some ad) nh ch) ∧ w'.cell? ⟨(ad.add (i * 2)).block, (ad.add (i * 2)).off + 1, none⟩ = some (.slice a0 m0 k0)) (ds := [17]) #[false, false, false, false, false, false, false, false, false, false, false, false, false, false, false, false, false, false] (by kernel_rfl) rfl rfl HS0 (fun hHeld => ?_)
                refine pure_ (i := 0) (N := some 91) (v := ?_) (a' := ?_) #[true, false, false, false, false, false, false, false, false, false, false, false, false, false, false, false, false, false] rfl rfl (by kernel_rfl) (fun _ _ _ h => h) (Or.inl ⟨by rfl, ?_⟩) ?_ ?_
                rotate_left
                · intro w'
                  go_simp
                  try with_reducible rfl
                rotate_left
                · simp only [Act.put, List.setIfInBounds_toArray, List.set_cons_zero, List.set_cons_succ, i64_w, i32_w]
                  rfl
                refine pure_ (i := 1) (N := some 92) (v := ?_) (a' := ?_) #[true, true, false, false, false, false, false, false, false, false, false, false, false, false, false, false, false, false] rfl rfl (by kernel_rfl) (fun _ _ _ h => h) (Or.inl ⟨by rfl, ?_⟩) ?_ ?_
                rotate_left
                · intro w'
                  go_simp
                  try with_reducible rfl
                rotate_left
                · simp only [Act.put, List.setIfInBounds_toArray, List.set_cons_zero, List.set_cons_succ, i64_w, i32_w]
                  rfl
                refine pure_ (i := 2) (N := some 93) (v := ?_) (a' := ?_) #[true, true, true, false, false, false, false, false, false, false, false, false, false, false, false, false, false, false] rfl rfl (by kernel_rfl) (fun _ _ _ h => h) (Or.inl ⟨by rfl, ?_⟩) ?_ ?_
                rotate_left
                · intro w'
                  go_simp
                  try with_reducible rfl
                rotate_left
                · simp only [Act.put, List.setIfInBounds_toArray, List.set_cons_zero, List.set_cons_succ, i64_w, i32_w]
                  rfl
                refine pure_ (i := 3) (N := some 94) (v := ?_) (a' := ?_) #[true, true, true, true, false, false, false, false, false, false, false, false, false, false, false, false, false, false] rfl rfl (by kernel_rfl) (fun _ _ _ h => h) (Or.inl ⟨by rfl, ?_⟩) ?_ ?_
                rotate_left
                · intro w'
                  go_simp
                  try with_reducible rfl
                rotate_left
                · simp only [Act.put, List.setIfInBounds_toArray, List.set_cons_zero, List.set_cons_succ, i64_w, i32_w]
                  rfl
                refine pure_ (i := 5) (N := some 96) (v := ?_) (a' := ?_) #[true, true, true, true, false, true, false, false, false, false, false, false, false, false, false, false, false, false] rfl rfl (by kernel_rfl) (fun _ _ _ h => h) (Or.inl ⟨by rfl, ?_⟩) ?_ ?_
                rotate_left
                · intro w'
                  go_simp
                  try with_reducible rfl
                rotate_left
                · simp only [Act.put, List.setIfInBounds_toArray, List.set_cons_zero, List.set_cons_succ, i64_w, i32_w]
                  rfl
                refine pure_ (i := 6) (N := some 97) (v := ?_) (a' := ?_) #[true, true, true, true, false, true, true, false, false, false, false, false, false, false, false, false, false, false] rfl rfl (by kernel_rfl) (fun _ _ _ h => h) (Or.inl ⟨by rfl, ?_⟩) ?_ ?_
                rotate_left
                · intro w'
                  go_simp
                  try with_reducible rfl
                rotate_left
                · simp only [Act.put, List.setIfInBounds_toArray, List.set_cons_zero, List.set_cons_succ, i64_w, i32_w]
                  rfl
                refine pure_ (i := 7) (N := some 98) (v := ?_) (a' := ?_) #[true, true, true, true, false, true, true, true, false, false, false, false, false, false, false, false, false, false] rfl rfl (by kernel_rfl) (fun _ _ _ h => h) (Or.inl ⟨by rfl, ?_⟩) ?_ ?_
                rotate_left
                · intro w'
                  go_simp
                  try with_reducible rfl
                rotate_left
                · simp only [Act.put, List.setIfInBounds_toArray, List.set_cons_zero, List.set_cons_succ, i64_w, i32_w]
                  rfl
                refine pure_ (i := 9) (N := some 100) (v := ?_) (a' := ?_) #[true, true, true, true, false, true, true, true, false, true, false, false, false, false, false, false, false, false] rfl rfl (by kernel_rfl) (fun _ _ _ h => h) (Or.inl ⟨by rfl, ?_⟩) ?_ ?_
                rotate_left
                · intro w'
                  go_simp
                  try with_reducible rfl
                rotate_left
                · simp only [Act.put, List.setIfInBounds_toArray, List.set_cons_zero, List.set_cons_succ, i64_w, i32_w]
                  rfl
                refine take_ (i := 4) (N := some 95) (v := ?_) (a' := ?_) #[true, true, true, true, true, true, true, true, false, true, false, false, false, false, false, false, false, false] rfl rfl (by kernel_rfl) (fun _ _ _ h => h) (Or.inl ⟨by rfl, ?_⟩) hHeld ?_ ?_
                rotate_left
                · rintro w' ⟨q1, q2, q3⟩
                  go_simp
                  try with_reducible rfl
                rotate_left
                · simp only [Act.put, List.setIfInBounds_toArray, List.set_cons_zero, List.set_cons_succ, i64_w, i32_w]
                  rfl
                refine take_ (i := 8) (N := some 99) (v := ?_) (a' := ?_) #[true, true, true, true, true, true, true, true, true, true, false, false, false, false, false, false, false, false] rfl rfl (by kernel_rfl) (fun _ _ _ h => h) (Or.inl ⟨by rfl, ?_⟩) hHeld ?_ ?_
                rotate_left
                · rintro w' ⟨q1, q2, q3⟩
                  go_simp
                  try with_reducible rfl
                rotate_left
                · simp only [Act.put, List.setIfInBounds_toArray, List.set_cons_zero, List.set_cons_succ, i64_w, i32_w]
                  rfl
                refine pure_ (i := 10) (N := some 101) (v := ?_) (a' := ?_) #[true, true, true, true, true, true, true, true, true, true, true, false, false, false, false, false, false, false] rfl rfl (by kernel_rfl) (fun _ _ _ h => h) (Or.inl ⟨by rfl, ?_⟩) ?_ ?_
                rotate_left
                · intro w'
                  go_simp
                  try with_reducible rfl
                rotate_left
                · simp only [Act.put, List.setIfInBounds_toArray, List.set_cons_zero, List.set_cons_succ, i64_w, i32_w]
                  rfl
                refine pure_ (i := 11) (N := some 102) (v := ?_) (a' := ?_) #[true, true, true, true, true, true, true, true, true, true, true, true, false, false, false, false, false, false] rfl rfl (by kernel_rfl) (fun _ _ _ h => h) (Or.inl ⟨by rfl, ?_⟩) ?_ ?_
                rotate_left
                · intro w'
                  go_simp
                  try with_reducible rfl
                rotate_left
                · simp only [Act.put, List.setIfInBounds_toArray, List.set_cons_zero, List.set_cons_succ, i64_w, i32_w]
                  rfl
                refine take_ (i := 12) (N := some 103) (v := ?_) (a' := ?_) #[true, true, true, true, true, true, true, true, true, true, true, true, true, false, false, false, false, false] rfl rfl (by kernel_rfl) (fun _ _ _ h => h) (Or.inl ⟨by rfl, ?_⟩) hHeld ?_ ?_
                rotate_left
                · rintro w' ⟨q1, q2, q3⟩
                  go_simp
                  try with_reducible rfl
                rotate_left
                · simp only [Act.put, List.setIfInBounds_toArray, List.set_cons_zero, List.set_cons_succ, i64_w, i32_w]
                  rfl
                refine one_ (i := 13) (N := some 104) #[true, true, true, true, true, true, true, true, true, true, true, true, true, true, false, false, false, false] rfl rfl (by kernel_rfl) (by decide) (fun K hK => ?_)
                refine value_ (w1 := wr.drew.alloc (.cells #[.slice a0 m0 k0] 30)) (v := .slice (some ⟨wr.heap.size, 0, none⟩) 1 1) (by rfl) rfl (by first | (go_simp; done) | (go_simp; rfl)) ?_
                refine hK.out _ _ ⟨pw_cell_below (below_alloc (Below.refl _ wr.drew) _) HS0.1, pw_cell_below (below_alloc (Below.refl _ wr.drew) _) HS0.2.1, pw_cell_below (below_alloc (Below.refl _ wr.drew) _) HS0.2.2⟩ (fun hHeld => ?_)
                clear hK K
                refine norm_ (a' := ?_) ?_ ?_
                rotate_left
                · show Act.put _ (some 104) _ = _
                  simp only [Act.put, List.setIfInBounds_toArray, List.set_cons_zero, List.set_cons_succ, i64_w, i32_w]
                  rfl
                refine one_ (i := 14) (N := some 105) #[true, true, true, true, true, true, true, true, true, true, true, true, true, true, true, false, false, false] rfl rfl (by kernel_rfl) (by decide) (fun K hK => ?_)
                refine Kd.R_append_step kH (w0 := wr.drew) B (by rfl) (.tmp 95) (.tmp 104) 44 30 (.slice none 0 0) 24 rfl Try.underlying44 info30 rfl (by decide) (by omega) (.slice A0 n4 c0) ha ⟨a0, m0, k0⟩ [encH ⟨a0, m0, k0⟩] (fun k => some k = (Value.slice A0 n4 c0).ownBlock ∨ wr.drew.heap.size ≤ k) (fun _ => False) rfl rfl rfl (fun _ hk => hk.elim) (fun k hk => .inr hk) (Kd.R_mono HRA.out (fun k hk => .inl hk)) (Below.refl _ _) HXd.out.bsz HLN.out ?_
                intro v9 w9 hq9 _ hg9 hat9
                obtain ⟨A9, c9, rfl⟩ := Kd.R_slice hq9
                have HEND := Aside0.mk (DPx.came HXd.out HBA.out HBD.out hq9 hg9 hat9)
                have hblk9 := HEND.out.1
                have hgk9 : w9.cell? ⟨(ad.add (i * 2)).block, (ad.add (i * 2)).off + 1, none⟩ = some (.slice a0 m0 k0) := by
                  have e : w9.heap[(ad.add (i * 2)).block]? = wr.drew.heap[(ad.add (i * 2)).block]? := by
                    rw [add_blk]
                    refine hg9.block ad.block (HXd.out.lt _ (HXd.out.sh ad.block rfl)) (fun e => HXd.out.ah ad.block e.symm rfl)
                  have e2 := HS0.2.2
                  unfold World.cell? at e2 ⊢
                  rw [e]
                  exact e2
                have HS4 : w9.cell? ⟨p, 4, none⟩ = some (.slice A0 n4 c0) ∧ w9.cell? ⟨p, 6, none⟩ = some (.slice (some ad) nh ch) ∧ w9.cell? ⟨(ad.add (i * 2)).block, (ad.add (i * 2)).off + 1, none⟩ = some (.slice a0 m0 k0) := ⟨blk_cell hblk9 4, blk_cell hblk9 6, hgk9⟩
                clear hq9 hg9 hat9 hgk9
                refine hK.out _ _ HS4 (fun hHeld => ?_)
                clear hK K
                refine norm_ (a' := ?_) ?_ ?_
                rotate_left
                · show Act.put _ (some 105) _ = _
                  simp only [Act.put, List.setIfInBounds_toArray, List.set_cons_zero, List.set_cons_succ, i64_w, i32_w]
                  rfl
                refine pure_ (i := 15) (N := some 106) (v := ?_) (a' := ?_) #[true, true, true, true, true, true, true, true, true, true, true, true, true, true, true, true, false, false] rfl rfl (by kernel_rfl) (fun _ _ _ h => h) (Or.inl ⟨by rfl, ?_⟩) ?_ ?_
                rotate_left
                · intro w'
                  go_simp
                  try with_reducible rfl
                rotate_left
                · simp only [Act.put, List.setIfInBounds_toArray, List.set_cons_zero, List.set_cons_succ, i64_w, i32_w]
                  rfl
                refine pure_ (i := 16) (N := some 107) (v := ?_) (a' := ?_) #[true, true, true, true, true, true, true, true, true, true, true, true, true, true, true, true, true, false] rfl rfl (by kernel_rfl) (fun _ _ _ h => h) (Or.inl ⟨by rfl, ?_⟩) ?_ ?_
                rotate_left
                · intro w'
                  go_simp
                  try with_reducible rfl
                rotate_left
                · simp only [Act.put, List.setIfInBounds_toArray, List.set_cons_zero, List.set_cons_succ, i64_w, i32_w]
                  rfl
                have d4 : w9.cell? ⟨p, 4, none⟩ = some (.slice A0 n4 c0) := blk_cell hblk9 4
                have z4 : w9.frozen? ⟨p, 4, none⟩ = false := blk_frozen hblk9 4
                refine last_ (i := 17) (N := none) #[true, true, true, true, true, true, true, true, true, true, true, true, true, true, true, true, true, true] rfl rfl (by kernel_rfl) (by decide) (fun K hK => ?_)
                refine skip_ (w1 := w9.setCell ⟨p, 4, none⟩ (.slice A9 (ha ++ [(⟨a0, m0, k0⟩ : Hd)]).length c9)) (by rfl) rfl (by go_simp) ?_
                refine hK.out _ _ ?_
                clear hK K
                refine done_ (by kernel_rfl) ?_
                go_wp2_with fail
                rw [show (ha ++ [(⟨a0, m0, k0⟩ : Hd)]).length = ha.length + 1 by simp] at HEND
                have HX5 := Aside0.mk HEND.out.2.1
                have HF5 := Aside0.mk (FrL.trans HFd.out HEND.out.2.2.1)
                have HRM5 := Aside0.mk (Kd.R_step (w1 := w9.setCell ⟨p, 4, none⟩ (.slice A9 (ha.length + 1) c9)) HRMd.out (fun k hk hlt => HEND.out.2.2.2 k hlt (fun e => HXd.out.ah k e hk.symm) (fun e => HXd.out.np.2.2 (by rw [← hk, e]))))
                have HHD5 := Aside0.mk (HHDd.out.keep HEND.out.2.2.1.k5)
                generalize w9.setCell ⟨p, 4, none⟩ (.slice A9 (ha.length + 1) c9) = u5 at HX5 HF5 HRM5 HHD5 ⊢
                clear HEND hblk9 HS0 HXd HFd HRA HBA HBD HRMd HHDd HLN
                clear d4 z4 HS4 hHeld
                obtain ⟨hi, hii⟩ := HIH.out
                have hnh := HN4.out.2.2
                have hnn := HHN.out
                have hmm := HNm.out
                obtain ⟨hcap, hcap2⟩ := HCAP.out
                have hci : (i : Int) ≤ (ch : Int) := by omega
                have hci2 : (i : Int) + 1 ≤ (nh : Int) := by omega
                have hci3 : (i : Int) + 1 ≤ (ch : Int) := by omega
                have hiz1 : (0 : Int) ≤ (i : Int) + 1 := by omega
                have hwi : wrap64 ((i : Int) + 1) = (i : Int) + 1 := by unfold wrap64; omega
                have HBd := Aside0.mk (below_drew (Below.refl u5.heap.size u5))
                have HEM := Aside0.mk (Rd.R_empty kM 122 u5.drew u5.heap.size (Nat.le_refl _))
                have hC : kM.C u5 (some ad) hs.length hs := (Kd.R_reads' HRM5.out).2.2
                have HCT := Aside0.mk (show kM.C u5.drew (some ad) i (hs.take i) by
                  have := Kd.C_take hC (m := i) (by omega)
                  rw [List.length_take, Nat.min_eq_left (by omega)] at this
                  exact Kd.C_drew this)
                have HCR := Aside0.mk (show kM.C u5 (if ch = i + 1 then some ad else some (ad.add ((i + 1) * 2))) (nh - (i + 1)) (hs.drop (i + 1)) by
                  have := Kd.C_drop (c := ch) hC (m := i + 1) (by omega) (by omega)
                  rw [List.length_drop, ← hnh] at this
                  exact this)
                have HL1 := Aside0.mk (show (([] : List Hm).length + i) * 32 ≤ 140737488355328 by simp; omega)
                have HL2 := Aside0.mk (show ((hs.take i).length + (nh - (i + 1))) * 32 ≤ 140737488355328 by rw [List.length_take]; omega)
                have HLS := Aside0.mk (show HeldD u5 B (hs.take i ++ hs.drop (i + 1)) (setH h (al.length : Int) none) by
                  have := HHD5.out.less hi
                  rw [hii, HN4.out.1] at this
                  exact this)
                have HLM := Aside0.mk (show (hs.take i ++ hs.drop (i + 1)).length ≤ N + 1 by rw [List.length_append, List.length_take, List.length_drop]; omega)
                have HS0 : u5.drew.cell? ⟨p, 6, none⟩ = some (.slice (some ad) nh ch) := blk_cell HX5.out.blk 6
                clear hi hii hnh hnn hmm hC hcap hcap2 HRM5 HHD5 HHN HN4 HCAP
                refine start_ (n := 20) (S := fun w' => w'.cell? ⟨p, 6, none⟩ = some (.slice (some ad) nh ch)) (ds := [19]) #[false, false, false, false, false, false, false, false, false, false, false, false, false, false, false, false, false, false, false, false] (by kernel_rfl) rfl rfl HS0 (fun hHeld => ?_)
                refine pure_ (i := 0) (N := some 108) (v := ?_) (a' := ?_) #[true, false, false, false, false, false, false, false, false, false, false, false, false, false, false, false, false, false, false, false] rfl rfl (by kernel_rfl) (fun _ _ _ h => h) (Or.inl ⟨by rfl, ?_⟩) ?_ ?_
                rotate_left
                · intro w'
                  go_simp
                  try with_reducible rfl
                rotate_left
                · simp only [Act.put, List.setIfInBounds_toArray, List.set_cons_zero, List.set_cons_succ, i64_w, i32_w]
                  rfl
                refine pure_ (i := 2) (N := some 110) (v := ?_) (a' := ?_) #[true, false, true, false, false, false, false, false, false, false, false, false, false, false, false, false, false, false, false, false] rfl rfl (by kernel_rfl) (fun _ _ _ h => h) (Or.inl ⟨by rfl, ?_⟩) ?_ ?_
                rotate_left
                · intro w'
                  go_simp
                  try with_reducible rfl
                rotate_left
                · simp only [Act.put, List.setIfInBounds_toArray, List.set_cons_zero, List.set_cons_succ, i64_w, i32_w]
                  rfl
                refine pure_ (i := 3) (N := some 111) (v := ?_) (a' := ?_) #[true, false, true, true, false, false, false, false, false, false, false, false, false, false, false, false, false, false, false, false] rfl rfl (by kernel_rfl) (fun _ _ _ h => h) (Or.inl ⟨by rfl, ?_⟩) ?_ ?_
                rotate_left
                · intro w'
                  go_simp
                  try with_reducible rfl
                rotate_left
                · simp only [Act.put, List.setIfInBounds_toArray, List.set_cons_zero, List.set_cons_succ, i64_w, i32_w]
                  rfl
                refine pure_ (i := 4) (N := some 112) (v := ?_) (a' := ?_) #[true, false, true, true, true, false, false, false, false, false, false, false, false, false, false, false, false, false, false, false] rfl rfl (by kernel_rfl) (fun _ _ _ h => h) (Or.inl ⟨by rfl, ?_⟩) ?_ ?_
                rotate_left
                · intro w'
                  go_simp
                  try with_reducible rfl
                rotate_left
                · simp only [Act.put, List.setIfInBounds_toArray, List.set_cons_zero, List.set_cons_succ, i64_w, i32_w]
                  rfl
                refine pure_ (i := 6) (N := some 114) (v := ?_) (a' := ?_) #[true, false, true, true, true, false, true, false, false, false, false, false, false, false, false, false, false, false, false, false] rfl rfl (by kernel_rfl) (fun _ _ _ h => h) (Or.inl ⟨by rfl, ?_⟩) ?_ ?_
                rotate_left
                · intro w'
                  go_simp
                  try with_reducible rfl
                rotate_left
                · simp only [Act.put, List.setIfInBounds_toArray, List.set_cons_zero, List.set_cons_succ, i64_w, i32_w]
                  rfl
                refine pure_ (i := 9) (N := some 117) (v := ?_) (a' := ?_) #[true, false, true, true, true, false, true, false, false, true, false, false, false, false, false, false, false, false, false, false] rfl rfl (by kernel_rfl) (fun _ _ _ h => h) (Or.inl ⟨by rfl, ?_⟩) ?_ ?_
                rotate_left
                · intro w'
                  go_simp
                  try with_reducible rfl
                rotate_left
                · simp only [Act.put, List.setIfInBounds_toArray, List.set_cons_zero, List.set_cons_succ, i64_w, i32_w]
                  rfl
                refine pure_ (i := 10) (N := some 118) (v := ?_) (a' := ?_) #[true, false, true, true, true, false, true, false, false, true, true, false, false, false, false, false, false, false, false, false] rfl rfl (by kernel_rfl) (fun _ _ _ h => h) (Or.inl ⟨by rfl, ?_⟩) ?_ ?_
                rotate_left
                · intro w'
                  go_simp
                  try with_reducible rfl
                rotate_left
                · simp only [Act.put, List.setIfInBounds_toArray, List.set_cons_zero, List.set_cons_succ, i64_w, i32_w]
                  rfl
                refine pure_ (i := 11) (N := some 119) (v := ?_) (a' := ?_) #[true, false, true, true, true, false, true, false, false, true, true, true, false, false, false, false, false, false, false, false] rfl rfl (by kernel_rfl) (fun _ _ _ h => h) (Or.inl ⟨by rfl, ?_⟩) ?_ ?_
                rotate_left
                · intro w'
                  go_simp
                  try with_reducible rfl
                rotate_left
                · simp only [Act.put, List.setIfInBounds_toArray, List.set_cons_zero, List.set_cons_succ, i64_w, i32_w]
                  rfl
                refine pure_ (i := 13) (N := some 121) (v := ?_) (a' := ?_) #[true, false, true, true, true, false, true, false, false, true, true, true, false, true, false, false, false, false, false, false] rfl rfl (by kernel_rfl) (fun _ _ _ h => h) (Or.inl ⟨by rfl, ?_⟩) ?_ ?_
                rotate_left
                · intro w'
                  go_simp
                  try with_reducible rfl
                rotate_left
                · simp only [Act.put, List.setIfInBounds_toArray, List.set_cons_zero, List.set_cons_succ, i64_w, i32_w]
                  rfl
                refine pure_ (i := 14) (N := some 122) (v := ?_) (a' := ?_) #[true, false, true, true, true, false, true, false, false, true, true, true, false, true, true, false, false, false, false, false] rfl rfl (by kernel_rfl) (fun _ _ _ h => h) (Or.inl ⟨by rfl, ?_⟩) ?_ ?_
                rotate_left
                · intro w'
                  go_simp
                  try with_reducible rfl
                rotate_left
                · simp only [Act.put, List.setIfInBounds_toArray, List.set_cons_zero, List.set_cons_succ, i64_w, i32_w]
                  rfl
                refine take_ (i := 5) (N := some 113) (v := ?_) (a' := ?_) #[true, false, true, true, true, true, true, false, false, true, true, true, false, true, true, false, false, false, false, false] rfl rfl (by kernel_rfl) (fun _ _ _ h => h) (Or.inl ⟨by rfl, ?_⟩) hHeld ?_ ?_
                rotate_left
                · intro w' q1
                  go_simp
                  try with_reducible rfl
                rotate_left
                · simp only [Act.put, List.setIfInBounds_toArray, List.set_cons_zero, List.set_cons_succ, i64_w, i32_w]
                  rfl
                refine take_ (i := 12) (N := some 120) (v := ?_) (a' := ?_) #[true, false, true, true, true, true, true, false, false, true, true, true, true, true, true, false, false, false, false, false] rfl rfl (by kernel_rfl) (fun _ _ _ h => h) (Or.inl ⟨by rfl, ?_⟩) hHeld ?_ ?_
                rotate_left
                · intro w' q1
                  go_simp
                  try with_reducible rfl
                rotate_left
                · simp only [Act.put, List.setIfInBounds_toArray, List.set_cons_zero, List.set_cons_succ, i64_w, i32_w]
                  rfl
                refine pure_ (i := 7) (N := some 115) (v := ?_) (a' := ?_) #[true, false, true, true, true, true, true, true, false, true, true, true, true, true, true, false, false, false, false, false] rfl rfl (by kernel_rfl) (fun _ _ _ h => h) (Or.inl ⟨by rfl, ?_⟩) ?_ ?_
                rotate_left
                · intro w'
                  go_simp
                  try with_reducible rfl
                rotate_left
                · simp only [Act.put, List.setIfInBounds_toArray, List.set_cons_zero, List.set_cons_succ, i64_w, i32_w]
                  rfl
                refine pure_ (i := 15) (N := some 123) (v := ?_) (a' := ?_) #[true, false, true, true, true, true, true, true, false, true, true, true, true, true, true, true, false, false, false, false] rfl rfl (by kernel_rfl) (fun _ _ _ h => h) (Or.inl ⟨by rfl, ?_⟩) ?_ ?_
                rotate_left
                · intro w'
                  go_simp
                  try with_reducible rfl
                rotate_left
                · simp only [Act.put, List.setIfInBounds_toArray, List.set_cons_zero, List.set_cons_succ, i64_w, i32_w]
                  rfl
                refine one_ (i := 1) (N := some 109) #[true, true, true, true, true, true, true, true, false, true, true, true, true, true, true, true, false, false, false, false] rfl rfl (by kernel_rfl) (by decide) (fun K hK => ?_)
                refine value_ (w1 := u5.drew.alloc (.cells #[] 122)) (v := .slice (some ⟨u5.heap.size, 0, none⟩) 0 0) (by rfl) rfl (by first | (go_simp; done) | (go_simp; rfl)) ?_
                refine hK.out _ _ (pw_cell_below (below_alloc (Below.refl _ u5.drew) _) HS0) (fun hHeld => ?_)
                clear hK K
                refine norm_ (a' := ?_) ?_ ?_
                rotate_left
                · show Act.put _ (some 109) _ = _
                  simp only [Act.put, List.setIfInBounds_toArray, List.set_cons_zero, List.set_cons_succ, i64_w, i32_w]
                  rfl
                refine one_ (i := 8) (N := some 116) #[true, true, true, true, true, true, true, true, true, true, true, true, true, true, true, true, false, false, false, false] rfl rfl (by kernel_rfl) (by decide) (fun K hK => ?_)
                refine Kd.R_append_rows_step kM (w0 := u5) u5.heap.size (by rfl) (.tmp 109) (.tmp 115) 65 122 (.agg #[.int .i64 0, .slice none 0 0]) 32 rfl Try.underlying65 info122 rfl (by decide) (by omega) _ [] (hs.take i) _ _ _ (fun _ => True) (fun _ => False) rfl rfl HEM.out (Kd.C_alloc HCT.out _) (fun _ _ h => h) (fun _ h => h.elim) (fun _ _ => trivial) (below_alloc HBd.out _) (by rw [size_al]; exact Nat.le_succ _) HL1.out ?_
                intro v4 w4 ho4 hb4 _ _
                rw [List.nil_append] at ho4
                obtain ⟨A4, c4, rfl⟩ := Kd.R_slice ho4
                have HO4 := Aside0.mk ho4
                have HB4 := Aside0.mk hb4
                have HS4 : w4.cell? ⟨p, 6, none⟩ = some (.slice (some ad) nh ch) := pw_cell_below hb4 HS0
                clear ho4 hb4
                refine hK.out _ _ HS4 (fun hHeld => ?_)
                clear hK K
                refine norm_ (a' := ?_) ?_ ?_
                rotate_left
                · show Act.put _ (some 116) _ = _
                  simp only [Act.put, List.setIfInBounds_toArray, List.set_cons_zero, List.set_cons_succ, i64_w, i32_w]
                  rfl
                refine one_ (i := 16) (N := some 124) #[true, true, true, true, true, true, true, true, true, true, true, true, true, true, true, true, true, false, false, false] rfl rfl (by kernel_rfl) (by decide) (fun K hK => ?_)
                refine Kd.R_append_rows_step kM (w0 := u5) u5.heap.size (by rfl) (.tmp 116) (.tmp 123) 65 122 (.agg #[.int .i64 0, .slice none 0 0]) 32 rfl Try.underlying65 info122 rfl (by decide) (by omega) (.slice A4 (hs.take i).length c4) (hs.take i) (hs.drop (i + 1)) _ _ _ (fun _ => True) (fun _ => False) rfl rfl HO4.out (Kd.C_below HCR.out HB4.out) (fun _ _ h => h) (fun _ h => h.elim) (fun _ _ => trivial) HB4.out HB4.out.size HL2.out ?_
                intro v9 w9 hq9 hb9 _ _
                obtain ⟨A9, c9, rfl⟩ := Kd.R_slice hq9
                have HEND := Aside0.mk (less_end HX5.out HLS.out HLM.out hq9 hb9)
                have hblk9 := HEND.out.1
                clear hq9 hb9
                refine hK.out _ _ (blk_cell hblk9 6) (fun hHeld => ?_)
                clear hK K
                refine norm_ (a' := ?_) ?_ ?_
                rotate_left
                · show Act.put _ (some 124) _ = _
                  simp only [Act.put, List.setIfInBounds_toArray, List.set_cons_zero, List.set_cons_succ, i64_w, i32_w]
                  rfl
                refine pure_ (i := 17) (N := some 125) (v := ?_) (a' := ?_) #[true, true, true, true, true, true, true, true, true, true, true, true, true, true, true, true, true, true, false, false] rfl rfl (by kernel_rfl) (fun _ _ _ h => h) (Or.inl ⟨by rfl, ?_⟩) ?_ ?_
                rotate_left
                · intro w'
                  go_simp
                  try with_reducible rfl
                rotate_left
                · simp only [Act.put, List.setIfInBounds_toArray, List.set_cons_zero, List.set_cons_succ, i64_w, i32_w]
                  rfl
                refine pure_ (i := 18) (N := some 126) (v := ?_) (a' := ?_) #[true, true, true, true, true, true, true, true, true, true, true, true, true, true, true, true, true, true, true, false] rfl rfl (by kernel_rfl) (fun _ _ _ h => h) (Or.inl ⟨by rfl, ?_⟩) ?_ ?_
                rotate_left
                · intro w'
                  go_simp
                  try with_reducible rfl
                rotate_left
                · simp only [Act.put, List.setIfInBounds_toArray, List.set_cons_zero, List.set_cons_succ, i64_w, i32_w]
                  rfl
                have d6 : w9.cell? ⟨p, 6, none⟩ = some (.slice (some ad) nh ch) := blk_cell hblk9 6
                have z6 : w9.frozen? ⟨p, 6, none⟩ = false := blk_frozen hblk9 6
                refine last_ (i := 19) (N := none) #[true, true, true, true, true, true, true, true, true, true, true, true, true, true, true, true, true, true, true, true] rfl rfl (by kernel_rfl) (by decide) (fun K hK => ?_)
                refine skip_ (w1 := w9.setCell ⟨p, 6, none⟩ (.slice A9 (hs.take i ++ hs.drop (i + 1)).length c9)) (by rfl) rfl (by go_simp) ?_
                refine hK.out _ _ ?_
                clear hK K
                refine done_ (by kernel_rfl) ?_
                generalize w9.setCell ⟨p, 6, none⟩ (.slice A9 (hs.take i ++ hs.drop (i + 1)).length c9) = u6 at HEND ⊢
                go_wp2_with fail
                go_roundw
                case rel =>
                  obtain ⟨k', hk'⟩ := lpD_next HL.out HE.out ⟨_, _, _, HEND.out.2.1⟩ (FrL.trans HF5.out HEND.out.2.2)
                  exact ⟨_, k', _, _, rfl, ⟨hk'⟩⟩
                case measure =>
                  obtain ⟨A6, c6, h6⟩ : ∃ A c, u6.cell? ⟨p, 4, none⟩ = some (.slice A (ha.length + 1) c) := ⟨_, _, blk_cell HEND.out.2.1.blk 4⟩
                  exact dmeas h6 HP4.out HN6.out HLT.out
              · rw [e1]
                have HE := Aside0.mk e2
                clear e1 e2
                go_wp2_with fail
                go_ret
                have hno : h (al.length : Int) = none := by
                  have := HHD.out.of (al.length : Int)
                  cases hy : h (al.length : Int) with
                  | none => rfl
                  | some y => rw [hy] at this; obtain ⟨b, hb, _⟩ := this; rw [← HN4.out.1] at hb; exact absurd hb (HE.out b)
                rw [HR3.out, ← HL.out.pl, pull_none k hno]
                exact ⟨rfl, S4, ⟨_, _, _, HX.out⟩, HFR.out⟩
/-- In, whatever comes. -/
theorem rin_calls (h : DP w B N S p σ) {M : Nat} (hI : Inv M σ) (hM : M ≤ 1000000) (hNm : N ≤ 500000) (A : Option Addr) (c : Nat) (l : List Int) (hr : Kd.C (Kd.int .u8) w A l.length l) (hc : l.length ≤ c) (hl : l.length ≤ 140737488351232) (hb : ∀ x ∈ l, 0 ≤ x ∧ x < 256) :
    Calls Try.prog 36 #[.pointer (some ⟨p, 0, none⟩), .slice A l.length c] w fun e w' => e = .returned (.int .i64 (inL σ l).1) ∧ ∃ S', DP w' B (N + 1) S' p (inL σ l).2 ∧ FrL B S S' w w' := by
  by_cases hE : (decA l).2 ≠ 0 ∨ (decA l).1.2.2.1 > (σ.sent : Int)
  · refine (rin_no h A c l hr hc hl hb hE).mono ?_
    rintro e w' ⟨rfl, hbel⟩
    have e1 : inL σ l = (14, σ) := by unfold inL; rw [if_pos hE]
    rw [e1]
    obtain ⟨vt, va, vh, hx⟩ := h
    exact ⟨rfl, S, ⟨_, _, _, (hx.below hbel).mono (Nat.le_succ _)⟩, hx.fr hbel⟩
  · have h1 : (decA l).2 = 0 := by
      rcases Classical.em ((decA l).2 = 0) with h | h
      · exact h
      · exact absurd (.inl h) hE
    exact rin_yes h hI hM hNm A c l hr hc hl hb h1 (by omega)
end Go.Proofs.Ytekakngojhnleaa.Xe
