/- SessionScripts walked. -/
import Derived.Test.YtfimakplmkbbjaaSd
import Derived.Test.YtfimakplmkbbjaaPSessionScriptsx8
namespace Go.Proofs.Ytfimakplmkbbjaa.Sl
open Go.RowKit Go.Maps Go.Proofs.Ytfimakplmkbbjaa.PSessionScripts Go.Proofs.Ytfimakplmkbbjaa.Mp Go.Proofs.Ytfimakplmkbbjaa.Sp Go.Proofs.Ytfimakplmkbbjaa.Sx Go.Proofs.Ytfimakplmkbbjaa.Sr Go.Proofs.Ytfimakplmkbbjaa.Sn Go.Proofs.Ytfimakplmkbbjaa.Sd Go.Proofs.YtfimakplmkbbjaaW.PrintWords Go.Proofs.YtfimakplmkbbjaaW.PrintLast Go.Proofs.YtfimakplmkbbjaaW.PrintMore
set_option linter.unusedVariables false
set_option linter.unusedSimpArgs false

def zAc : Ac := ⟨0, 0, 0, 0, []⟩
def kAc : Kd Ac := Kd.iso (Kd.pair (Kd.int .i64) (Kd.pair (Kd.int .i64) (Kd.pair (Kd.int .i64) (Kd.pair (Kd.int .i64) (Kd.slice 3 (Kd.int .i64)))))) (fun x : Ac => (x.f0, x.f1, x.f2, x.f3, x.f4))
theorem kAc_open {w : World} {x : Ac} {cs : List Value} (h : kAc.K w x cs) : ∃ A c, cs = [.int .i64 x.f0, .int .i64 x.f1, .int .i64 x.f2, .int .i64 x.f3, .slice A x.f4.length c] ∧ x.f4.length ≤ c ∧ (Kd.int .i64).C w A x.f4.length x.f4 := by
  obtain ⟨_, _, rfl, rfl, ⟨_, _, rfl, rfl, ⟨_, _, rfl, rfl, ⟨_, _, rfl, rfl, ⟨A, c, rfl, l, g⟩⟩⟩⟩⟩ := h
  exact ⟨A, c, rfl, l, g⟩
def rdA (xs : List Ac) (i : Int) : Ac := xs.getD i.toNat zAc
theorem at_Ac {w : World} {A : Option Addr} {n : Nat} {xs : List Ac} (h : Kd.C kAc w A n xs) (i : Int) (h0 : 0 ≤ i) (h1 : i < n) : ∃ ad A1 c1, A = some ad ∧ w.cell? (ad.add (i.toNat * 5)) = some (.int .i64 (rdA xs i).f0) ∧ w.cell? ⟨(ad.add (i.toNat * 5)).block, (ad.add (i.toNat * 5)).off + 1, none⟩ = some (.int .i64 (rdA xs i).f1) ∧
    w.cell? ⟨(ad.add (i.toNat * 5)).block, (ad.add (i.toNat * 5)).off + 2, none⟩ = some (.int .i64 (rdA xs i).f2) ∧ w.cell? ⟨(ad.add (i.toNat * 5)).block, (ad.add (i.toNat * 5)).off + 3, none⟩ = some (.int .i64 (rdA xs i).f3) ∧
    w.cell? ⟨(ad.add (i.toNat * 5)).block, (ad.add (i.toNat * 5)).off + 4, none⟩ = some (.slice A1 (rdA xs i).f4.length c1) ∧ (Kd.int .i64).C w A1 (rdA xs i).f4.length (rdA xs i).f4 := by
  obtain ⟨ad, c, e, _, hK, hc0⟩ := Kd.C_get h zAc i h0 h1
  have hc : ∀ j u, c[j]? = some u → w.cell? (ad.add (i.toNat * 5 + j)) = some u := hc0
  obtain ⟨A1, c1, rfl, l, g⟩ := kAc_open hK
  exact ⟨ad, A1, c1, e, hc 0 _ rfl, by rw [← add_field _ _ 1 (by omega)]; exact hc 1 _ rfl, by rw [← add_field _ _ 2 (by omega)]; exact hc 2 _ rfl, by rw [← add_field _ _ 3 (by omega)]; exact hc 3 _ rfl, by rw [← add_field _ _ 4 (by omega)]; exact hc 4 _ rfl, g⟩
/-- What is good of an act. -/
def GoodA (x : Ac) : Prop := I64 x.f1 ∧ x.f4.length ≤ 17592186044416
theorem rdA_mem (xs : List Ac) (j : Nat) (h : j < xs.length) : rdA xs (j : Int) ∈ xs := by
  simp only [rdA, Int.toNat_natCast, List.getD_eq_getElem?_getD, List.getElem?_eq_getElem h, Option.getD_some]
  exact List.getElem_mem h

theorem same_l0 (l : List Int) (hl : l.length ≤ 1000) : ∀ m i, i + m = l.length → windbreakref12_SameInts.l0 (m + 1) l l (i : Int) = some true := by
  intro m
  induction m with
  | zero =>
    intro i hi
    unfold windbreakref12_SameInts.l0
    rw [if_neg (by omega)]
  | succ m ih =>
    intro i hi
    unfold windbreakref12_SameInts.l0
    rw [if_pos (by omega), if_pos (by omega), if_pos (by omega), if_pos rfl, wrap64_small (by omega) (by omega), show (i : Int) + 1 = ((i + 1 : Nat) : Int) by omega]
    exact ih (i + 1) (by omega)
theorem same_f (l : List Int) (hl : l.length ≤ 1000) : windbreakref12_SameInts.f (l.length + 1) l l = some true := by
  unfold windbreakref12_SameInts.f
  rw [if_pos rfl]
  exact same_l0 l hl l.length 0 (by omega)
theorem who_len (σ : St) : (whoS σ).length ≤ 16 := by
  unfold whoS
  exact Nat.le_trans (List.length_filter_le _ _) (by decide)

set_option maxRecDepth 100000 in
set_option maxHeartbeats 2000000 in
theorem scripts_calls (a0 a1 a2 : Int) (A : Option Addr) (c : Nat) (xs : List Ac) (w : World) (hr : Kd.C kAc w A xs.length xs) (hl : xs.length ≤ 140737488351232) (hg : ∀ x ∈ xs, GoodA x) :
    Calls Try.prog 4 #[.agg #[.int .i64 a0, .int .i64 a1, .int .i64 a2], .slice A xs.length c] w fun e w' => e = .returned (.bool true) ∧ Below w.heap.size w w' := by
  obtain ⟨w1, hw1⟩ : ∃ w1, w1 = w.alloc (.cells #[.int .i64 a0, .int .i64 a1, .int .i64 a2] 22) := ⟨_, rfl⟩
  have hb1 : Below w.heap.size w w1 := by rw [hw1]; exact below_alloc (Below.refl _ _) _
  have k1 : w1.heap[w.heap.size]? = some (.cells #[.int .i64 a0, .int .i64 a1, .int .i64 a2] 22 (0, 0)) := by rw [hw1]; exact blk_new w _
  have K1 := Aside0.mk k1
  have HR := Aside0.mk hr
  have HG := Aside0.mk hg
  have HB1 := Aside0.mk hb1
  have l0 := blk_cell k1 0
  have l1 := blk_cell k1 1
  have l2 := blk_cell k1 2
  rw [hw1] at l0 l1 l2
  have HW1 := Aside0.mk hw1
  clear hr hg hb1 k1 hw1
  have h012 : okNew 0 2 1 := by unfold okNew; omega
  have H012 := Aside0.mk h012
  clear h012
  by_cases hok : okNew a0 a1 a2
  · have HOK := Aside0.mk hok
    clear hok
    go_enter Try.func4, Try.ntmps4
    go_wp2_with fail
    rw [← HW1.out]
    refine (new_calls a0 a1 a2 w1).mono ?_
    intro e w2 hh
    simp only [if_pos HOK.out] at hh
    obtain ⟨rfl, hps, hb2, hs2⟩ := hh
    have HPS := Aside0.mk hps
    have HB2 := Aside0.mk hb2
    have HS2 := Aside0.mk hs2
    have k2 := blk_below K1.out hb2
    have K2 := Aside0.mk k2
    have m0 : w2.cell? ⟨w.heap.size, 0, none⟩ = some (.int .i64 a0) := blk_cell k2 0
    have m1 : w2.cell? ⟨w.heap.size, 1, none⟩ = some (.int .i64 a1) := blk_cell k2 1
    have m2 : w2.cell? ⟨w.heap.size, 2, none⟩ = some (.int .i64 a2) := blk_cell k2 2
    clear hps hb2 hs2 k2 l0 l1 l2
    go_wp2_with fail
    refine (ref_new_calls a0 a1 a2 w2).mono ?_
    intro e w3 hh
    simp only [if_pos HOK.out] at hh
    obtain ⟨rfl, hrs, hb3, hs3⟩ := hh
    have HRS := Aside0.mk hrs
    have HB3 := Aside0.mk hb3
    clear hrs hb3 hs3 m0 m1 m2
    go_wp2_with fail
    refine (new_calls 0 2 1 w3).mono ?_
    intro e w4 hh
    simp only [if_pos H012.out] at hh
    obtain ⟨rfl, _, hb4, _⟩ := hh
    have HB4 := Aside0.mk hb4
    clear hb4
    obtain ⟨p, hp⟩ : ∃ p, p = w1.heap.size + 1 := ⟨_, rfl⟩
    obtain ⟨b, hb⟩ : ∃ b, b = w1.heap.size := ⟨_, rfl⟩
    obtain ⟨r, hr⟩ : ∃ r, r = w2.heap.size := ⟨_, rfl⟩
    obtain ⟨q, hq⟩ : ∃ q, q = w3.heap.size + 1 := ⟨_, rfl⟩
    rw [← hp, ← hr, ← hq]
    have HT := Aside0.mk (show Two w4 w.heap.size 0 p b r (newS a0 a1 a2) (newS a0 a1 a2) from
      ⟨by rw [hp, hb]; exact ((HPS.out _ _).below HB3.out).below HB4.out, by rw [hr]; exact (HRS.out _ _).below HB4.out, newInv HOK.out, newInv HOK.out, by have := HB1.out.size; omega, by have := HB1.out.size; omega, by have := HB1.out.size; have := HB2.out.size; omega, by have := HS2.out; omega, by have := HS2.out; omega⟩)
    have HBW := Aside0.mk (show Below w.heap.size w w4 from ((HB1.out.trans (HB2.out.mono HB1.out.size)).trans (HB3.out.mono (Nat.le_trans HB1.out.size HB2.out.size))).trans (HB4.out.mono (Nat.le_trans (Nat.le_trans HB1.out.size HB2.out.size) HB3.out.size)))
    clear hp hb hr hq
    go_wp2_with fail
    go_loopg [11] (xs.length + 1) (fun g v11 wx => ∃ i : Nat, i + g = xs.length + 1 ∧ i ≤ xs.length ∧ v11 = .int .i64 (i : Int) ∧ i ≤ 200 ∧ Aside0 (∃ σ, Two wx w.heap.size i p b r σ σ) ∧ Aside0 (Below w.heap.size w wx))
    case atStart => exact ⟨0, by omega, by omega, rfl, by omega, ⟨_, HT.out⟩, HBW⟩
    case round =>
      clear HT HBW
      obtain ⟨i, hig, hil, rfl, hi200, HTS, HB⟩ := hrel
      obtain ⟨σ, hT⟩ := HTS.out
      have HT := Aside0.mk hT
      clear HTS hT
      cases gk with
      | zero => exfalso; omega
      | succ g =>
        by_cases hlt : (i : Int) < (xs.length : Int)
        · by_cases hlt2 : (i : Int) < 200
          · obtain ⟨ad, A1, c1, rfl, x0, x1, x2, x3, x4, hx4⟩ := at_Ac HR.out (i : Int) (by omega) hlt
            rw [Int.toNat_natCast] at x0 x1 x2 x3 x4
            have hgx := HG.out _ (rdA_mem xs i (by omega))
            obtain ⟨x, hx⟩ : ∃ x, x = rdA xs (i : Int) := ⟨_, rfl⟩
            rw [← hx] at x0 x1 x2 x3 x4 hx4 hgx
            replace x0 := pw_cell_below HB.out x0
            replace x1 := pw_cell_below HB.out x1
            replace x2 := pw_cell_below HB.out x2
            replace x3 := pw_cell_below HB.out x3
            replace x4 := pw_cell_below HB.out x4
            have HGX := Aside0.mk hgx
            have HX4 := Aside0.mk hx4
            clear hx hgx hx4
            go_wp2_with fail
            refine (do_calls (w0 := w) rfl HB.out HT.out (by omega) x HGX.out.1 A1 c1 HX4.out HGX.out.2).mono ?_
            rintro e w5 ⟨⟨v5, rfl, hv5⟩, hT5, hF5⟩
            obtain rfl := hv5 rfl
            clear hv5
            have HT5 := Aside0.mk hT5
            have HB5 := Aside0.mk (HB.out.trans hF5.1)
            clear hT5 hF5 x0 x1 x2 x3 x4
            go_wp2_with fail
            refine (Sw.state_calls HT5.out.ps).mono ?_
            rintro e w6 ⟨rfl, hd⟩
            have HT6 := Aside0.mk (HT5.out.below hd.below)
            have HB6 := Aside0.mk (below_then HB5.out HB5.out.size hd.below)
            clear hd
            go_wp2_with fail
            refine (Sr.state_calls HT6.out.rs).mono ?_
            rintro e w7 ⟨rfl, hd⟩
            have HT7 := Aside0.mk (HT6.out.below hd.below)
            have HB7 := Aside0.mk (below_then HB6.out HB6.out.size hd.below)
            clear hd
            go_wp2_with fail
            refine (Sh.who_calls HT7.out.ps HT7.out.iv (by omega)).mono ?_
            rintro e w8 ⟨v8, rfl, ho8, hb8⟩
            have HT8 := Aside0.mk (HT7.out.below hb8)
            have HB8 := Aside0.mk (below_then HB7.out HB7.out.size hb8)
            have HO8 := Aside0.mk ho8
            clear ho8 hb8
            go_wp2_with fail
            refine (Sq.who_calls HT8.out.rs HT8.out.iv).mono ?_
            rintro e w9 ⟨v9, rfl, ho9, hb9⟩
            have HT9 := Aside0.mk (HT8.out.below hb9)
            have HB9 := Aside0.mk (below_then HB8.out HB8.out.size hb9)
            obtain ⟨A8, c8, rfl, hc8, hr8⟩ := Kd.R_reads (Kd.R_below HO8.out hb9)
            obtain ⟨A9, c9, rfl, hc9, hr9⟩ := Kd.R_reads ho9
            obtain ⟨L, hL⟩ : ∃ L, L = whoS (actS σ x).2 := ⟨_, rfl⟩
            rw [← hL] at hc8 hr8 hc9 hr9 ⊢
            have HL := Aside0.mk (show L.length ≤ 1000 by rw [hL]; have := who_len (actS σ x).2; omega)
            have HR8 := Aside0.mk hr8
            have HR9 := Aside0.mk hr9
            clear ho9 hb9 hr8 hr9 hL
            go_wp2_with fail
            refine (windbreakref12_SameInts.calls (L.length + 1) A8 c8 L A9 c9 L true _ HR8.out hc8 HR9.out hc9 (same_f L HL.out)).mono ?_
            rintro e w10 ⟨rfl, hd⟩
            have HT10 := Aside0.mk (HT9.out.below hd.below)
            have HB10 := Aside0.mk (below_then HB9.out HB9.out.size hd.below)
            clear hd
            go_wp2_with fail
            go_roundg g
            case measure => omega
            case rel => exact ⟨i + 1, by omega, by omega, rfl, by omega, ⟨_, HT10.out⟩, HB10⟩
          · go_wp2_with fail
            go_ret
            exact ⟨rfl, HB.out⟩
        · go_wp2_with fail
          go_ret
          exact ⟨rfl, HB.out⟩
  · have HOK := Aside0.mk hok
    clear hok
    go_enter Try.func4, Try.ntmps4
    go_wp2_with fail
    rw [← HW1.out]
    refine (new_calls a0 a1 a2 w1).mono ?_
    intro e w2 hh
    simp only [if_neg HOK.out] at hh
    obtain ⟨rfl, hb2⟩ := hh
    have HB2 := Aside0.mk hb2
    have k2 := blk_below K1.out hb2
    have m0 : w2.cell? ⟨w.heap.size, 0, none⟩ = some (.int .i64 a0) := blk_cell k2 0
    have m1 : w2.cell? ⟨w.heap.size, 1, none⟩ = some (.int .i64 a1) := blk_cell k2 1
    have m2 : w2.cell? ⟨w.heap.size, 2, none⟩ = some (.int .i64 a2) := blk_cell k2 2
    clear hb2 k2 l0 l1 l2
    go_wp2_with fail
    refine (ref_new_calls a0 a1 a2 w2).mono ?_
    intro e w3 hh
    simp only [if_neg HOK.out] at hh
    obtain ⟨rfl, hb3⟩ := hh
    have HB3 := Aside0.mk hb3
    clear hb3 m0 m1 m2
    go_wp2_with fail
    refine (new_calls 0 2 1 w3).mono ?_
    intro e w4 hh
    simp only [if_pos H012.out] at hh
    obtain ⟨rfl, _, hb4, _⟩ := hh
    have HB4 := Aside0.mk hb4
    have HBW := Aside0.mk (show Below w.heap.size w w4 from ((HB1.out.trans (HB2.out.mono HB1.out.size)).trans (HB3.out.mono (Nat.le_trans HB1.out.size HB2.out.size))).trans (HB4.out.mono (Nat.le_trans (Nat.le_trans HB1.out.size HB2.out.size) HB3.out.size)))
    clear hb4
    obtain ⟨q, hq⟩ : ∃ q, q = w3.heap.size + 1 := ⟨_, rfl⟩
    rw [← hq]
    clear hq
    go_wp2_with fail
    go_loopg [11] 1 (fun g v11 wx => v11 = .int .i64 0 ∧ wx = w4)
    case atStart => exact ⟨rfl, rfl⟩
    case round =>
      obtain ⟨rfl, rfl⟩ := hrel
      by_cases hlt : (0 : Int) < (xs.length : Int)
      · go_wp2_with fail
        go_ret
        exact ⟨rfl, HBW.out⟩
      · go_wp2_with fail
        go_ret
        exact ⟨rfl, HBW.out⟩
end Go.Proofs.Ytfimakplmkbbjaa.Sl
