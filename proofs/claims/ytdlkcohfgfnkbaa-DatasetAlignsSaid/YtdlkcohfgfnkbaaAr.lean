/- The document's Align: the walk. -/
import Derived.Test.YtdlkcohfgfnkbaaAi
import Derived.Test.YtdlkcohfgfnkbaaAm
import Derived.RegionTactic
import Derived.Deep.RegionHeld3
namespace Go.Proofs.Ytdlkcohfgfnkbaa.Ai
open Go.RowKit Go.Proofs.Ytdlkcohfgfnkbaa.PDatasetJoins Go.Proofs.Ytdlkcohfgfnkbaa.DFns Go.Proofs.Ytdlkcohfgfnkbaa.Tp Go.Proofs.Ytdlkcohfgfnkbaa.Tr Go.Proofs.Ytdlkcohfgfnkbaa.Il Go.Proofs.Ytdlkcohfgfnkbaa.Al Go.Proofs.YtdlkcohfgfnkbaaW.PrintWords Go.Proofs.YtdlkcohfgfnkbaaW.PrintLast Go.Proofs.YtdlkcohfgfnkbaaW.PrintMore
set_option linter.unusedSimpArgs false
set_option linter.unusedVariables false

theorem cell_low {w W : World} {a : Addr} {v : Value} (h : w.cell? a = some v) (hb : Below w.heap.size w W) : W.cell? a = some v := (hb.cell (World.block_lt_of_cell? w _ h)).trans h
def AlignPost (w : World) (r : List Int × Int) (e : Ending) (w' : World) : Prop :=
  ∃ v, e = .returned (.tuple #[v, .int .i64 r.2]) ∧ (Kd.int .i64).R 3 w' w.heap.size (fun _ => True) v r.1 ∧ Below w.heap.size w w'
/-- What lay in W lies as it lay. -/
structure Held (W w : World) : Prop where
  out : Below W.heap.size W w
theorem place_held {W w : World} {A : Option Addr} {c : Nat} {l : List Int} {x r : Int} (h : Held W w) (hr : Kd.C (Kd.int .i64) W A l.length l) (hc : l.length ≤ c) (hl : l.length ≤ 140737488351232) (hx : plI l x = r) :
    Calls Try.prog 55 #[.slice A l.length c, .int .i64 x] w fun e w' => e = .returned (.int .i64 r) ∧ Held W w' := by
  obtain ⟨k, hk⟩ := (ref_place l x hl).rounds
  rw [hx] at hk
  exact (windbreakref15_place.calls k A c l x r w (Kd.C_below hr h.out) hc hk).mono fun e w' hh => ⟨hh.1, ⟨h.out.trans (hh.2.below.mono h.out.size)⟩⟩
def allK (l : List (List Int)) (x : Int) (k : Nat) : Bool := ((l.take k).drop 1).all (fun c => decide (x ∈ c))
theorem allK_one (l : List (List Int)) (x : Int) (h : 0 < l.length) : allK l x 1 = true := by
  unfold allK
  match l, h with
  | c :: r, _ => rfl
theorem allK_end (l : List (List Int)) (x : Int) : allK l x l.length = keep l x := by unfold allK keep; rw [List.take_length]
theorem allK_succ (l : List (List Int)) (x : Int) (k : Nat) (h1 : 1 ≤ k) (h : k < l.length) : allK l x (k + 1) = (allK l x k && decide (x ∈ l.getD k [])) := by
  unfold allK
  rw [List.take_succ_eq_append_getElem h, List.drop_append_of_le_length (by rw [List.length_take]; omega), List.all_append, List.getD_eq_getElem?_getD, List.getElem?_eq_getElem h, Option.getD_some]
  simp
theorem pl_at {l : List Int} {x : Int} (h : x ∈ l) : ∃ j : Nat, j < l.length ∧ plI l x = (j : Int) := by
  cases hf : fstIx l x with
  | none => exact absurd h (fstIx_none.1 hf)
  | some j => exact ⟨j, (fstIx_some hf).1, by unfold plI; rw [hf]⟩
theorem pl_none {l : List Int} {x : Int} (h : x ∉ l) : plI l x = -1 := by unfold plI; rw [fstIx_none.2 h]
def refP (l : List (List Int)) : List Int × Int := if ∀ x ∈ l, idsB x = true then (outR l (l.getD 0 []).length, 0) else ([], 20)
theorem ids_quiet (A : Option Addr) (c : Nat) (l : List Int) (w : World) (hr : Kd.C (Kd.int .i64) w A l.length l) (hc : l.length ≤ c) : Calls Try.prog 54 #[.slice A l.length c] w fun e w' => e = .returned (.bool (idsB l)) ∧ Below w.heap.size w w' := by
  obtain ⟨k, hk⟩ := (ref_ids l).rounds
  exact (windbreakref15_RightIds.calls k A c l _ w hr hc hk).mono fun e w' h => ⟨h.1, h.2.below⟩
set_option maxRecDepth 100000 in
set_option maxHeartbeats 1000000 in
theorem ref_align_few (A : Option Addr) (c : Nat) (l : List (List Int)) (w : World) (h : l.length = 0 ∨ 16 < l.length) :
    Calls Try.prog 30 #[.slice A l.length c] w (AlignPost w ([], 1)) := by
  by_cases h0 : l.length = 0
  · have h0b : ((l.length : Int) == 0) = true := by simp [h0]
    have H0 := Aside0.mk h0
    clear h h0
    go_enter Try.func30, Try.ntmps30
    go_wp2_with fail
    go_ret2
    exact ⟨_, rfl, Kd.R_nil _ _ _ _ _, Below.refl _ _⟩
  · have h0b : ((l.length : Int) == 0) = false := by rw [beq_eq_false_iff_ne]; omega
    have h1 : (l.length : Int) > 16 := by omega
    clear h h0
    go_enter Try.func30, Try.ntmps30
    go_wp2_with fail
    go_ret2
    exact ⟨_, rfl, Kd.R_nil _ _ _ _ _, Below.refl _ _⟩
set_option maxRecDepth 100000 in
set_option maxHeartbeats 2000000 in
theorem ref_align_more (A : Option Addr) (c : Nat) (l : List (List Int)) (w : World) (hr : Kd.C (Kd.slice 3 (Kd.int .i64)) w A l.length l) (h : ¬ (l.length = 0 ∨ 16 < l.length)) :
    Calls Try.prog 30 #[.slice A l.length c] w (AlignPost w (refP l)) := by
  have HR := Aside0.mk hr
  have h0b : ((l.length : Int) == 0) = false := by rw [beq_eq_false_iff_ne]; omega
  have h1 : ¬ (l.length : Int) > 16 := by omega
  have h16 := Aside0.mk (show 0 < l.length ∧ l.length ≤ 16 by omega)
  clear hr h
  go_enter Try.func30, Try.ntmps30
  go_wp2_with fail
  go_loopg [4] l.length (fun g v4 wx => ∃ i : Nat, i + g = l.length ∧ v4 = .int .i64 (i : Int) ∧ Aside0 (∀ x ∈ l.take i, idsB x = true) ∧ Aside0 (Below w.heap.size w wx))
  case atStart => exact ⟨0, by omega, rfl, ⟨by simp⟩, ⟨Below.refl _ _⟩⟩
  case round =>
    obtain ⟨i, hig, rfl, HA, HB⟩ := hrel
    cases gk with
    | succ g =>
      have hlt : (i : Int) < (l.length : Int) := by omega
      obtain ⟨ad, Ac, cc, rfl, hcc, hcl, hcr⟩ := at_L1 (Kd.C_below HR.out HB.out) (i : Int) (by omega) hlt
      rw [Int.toNat_natCast] at hcc
      rw [rdL_getD] at hcc hcl hcr
      have htk : l.take (i + 1) = l.take i ++ [l.getD i []] := by
        rw [List.take_succ_eq_append_getElem (show i < l.length by omega), List.getD_eq_getElem?_getD, List.getElem?_eq_getElem (show i < l.length by omega), Option.getD_some]
      have hmem := getD_mem l i (by omega)
      obtain ⟨x, hx⟩ : ∃ x, x = l.getD i [] := ⟨_, rfl⟩
      rw [← hx] at hcc hcl hcr htk hmem
      have HTK := Aside0.mk htk
      have HMM := Aside0.mk hmem
      have HCR := Aside0.mk hcr
      clear hx htk hcr hmem
      go_wp2_with fail
      refine (ids_quiet Ac cc x _ HCR.out hcl).mono ?_
      rintro e w1 ⟨rfl, hb1⟩
      have HB1 := Aside0.mk (HB.out.trans (hb1.mono HB.out.size))
      clear hb1 hcc
      cases hi : idsB x with
      | true =>
        have HI := Aside0.mk hi
        clear hi
        go_wp2_with fail
        go_roundg g
        case measure => omega
        case rel =>
          refine ⟨i + 1, by omega, rfl, ⟨fun y hy => ?_⟩, HB1⟩
          rw [HTK.out, List.mem_append, List.mem_singleton] at hy
          rcases hy with h | rfl
          · exact HA.out y h
          · exact HI.out
      | false =>
        have HI := Aside0.mk hi
        clear hi
        go_wp2_with fail
        go_ret2
        rw [show refP l = ([], 20) from if_neg (fun h => by have := h x HMM.out; rw [HI.out] at this; cases this)]
        exact ⟨_, rfl, Kd.R_nil _ _ _ _ _, HB1.out⟩
    | zero =>
      have hlt : ¬ (i : Int) < (l.length : Int) := by omega
      have HAll := Aside0.mk (show ∀ x ∈ l, idsB x = true by
        have := HA.out
        rw [List.take_of_length_le (by omega)] at this
        exact this)
      go_wp2_with fail
      clear hlt HA hig
      obtain ⟨wo, hwo⟩ : ∃ W, W = wr := ⟨_, rfl⟩
      rw [← hwo] at HB
      rw [← hwo]
      clear hwo wr
      have hl0 : (0 : Int) < (l.length : Int) := by have := h16.out; omega
      obtain ⟨ad, Ac, cc, rfl, hcc, hcl, hcr⟩ := at_L1 (Kd.C_below HR.out HB.out) 0 (by omega) hl0
      rw [show ((0 : Int)).toNat = 0 from rfl, Addr.add_zero'] at hcc
      rw [show rd_L1 l 0 = l.getD 0 [] from rdL_getD l 0] at hcc hcl hcr
      have hid := ids_facts (HAll.out _ (getD_mem l 0 (by omega)))
      obtain ⟨c0, hc0⟩ : ∃ x, x = l.getD 0 [] := ⟨_, rfl⟩
      rw [← hc0] at hcc hcl hcr hid
      have HC0 := Aside0.mk hc0
      have HCC := Aside0.mk hcc
      have HCR := Aside0.mk hcr
      have h256 := hid.1
      clear hcr hc0 hid hcc
      go_loopg [6, 7] c0.length (fun g v6 v7 wx => ∃ i : Nat, i + g = c0.length ∧ v7 = .int .i64 (i : Int) ∧ Aside0 ((Kd.int .i64).R 3 wx wo.heap.size (fun _ => True) v6 (outR l i)) ∧ Aside0 (Below wo.heap.size wo wx))
      case atStart => exact ⟨0, by omega, rfl, ⟨Kd.R_nil _ _ _ _ _⟩, ⟨Below.refl _ _⟩⟩
      case round =>
        obtain ⟨i, hig, rfl, HO, HBy⟩ := hrel
        have hcc := cell_low HCC.out HBy.out
        cases gk with
        | zero =>
          have hlt : ¬ (i : Int) < (c0.length : Int) := by omega
          obtain ⟨A6, c6, rfl⟩ := Kd.R_slice HO.out
          have HE := Aside0.mk (show i = c0.length by omega)
          go_wp2_with fail
          go_ret2
          rw [show refP l = (outR l (l.getD 0 []).length, 0) from if_pos HAll.out, ← HC0.out, ← HE.out]
          exact ⟨_, rfl, Kd.R_lower HO.out HB.out.size, HB.out.trans (HBy.out.mono HB.out.size)⟩
        | succ g =>
          have hlt : (i : Int) < (c0.length : Int) := by omega
          go_wp2_with fail
          obtain ⟨ae, rfl, hce⟩ := Kd.at_int HCR.out (i : Int) (by omega) hlt
          rw [Int.toNat_natCast] at hce
          obtain ⟨x, hx⟩ : ∃ x, x = rd c0 (i : Int) := ⟨_, rfl⟩
          rw [← hx] at hce
          have HX := Aside0.mk hx
          have HCE := Aside0.mk hce
          clear hx hce
          obtain ⟨wz, hwz⟩ : ∃ W, W = wr := ⟨_, rfl⟩
          rw [← hwz] at HO HBy hcc
          rw [← hwz]
          clear hwz wr hcc
          go_loopg [8, 9] (l.length - 1) (fun g v8 v9 wx => ∃ k : Nat, k + g = l.length ∧ 1 ≤ k ∧ v9 = .int .i64 (k : Int) ∧ v8 = .bool (allK l x k) ∧ Aside0 (Below wz.heap.size wz wx))
          case atStart => exact ⟨1, by have := h16.out; omega, Nat.le_refl _, rfl, by rw [allK_one l x h16.out.1], ⟨Below.refl _ _⟩⟩
          case round =>
            obtain ⟨k, hkg, hk1, rfl, rfl, HBk⟩ := hrel
            have HBo := Aside0.mk (HBy.out.trans (HBk.out.mono HBy.out.size))
            cases gk with
            | succ gi =>
              have hltk : (k : Int) < (l.length : Int) := by omega
              have has := allK_succ l x k hk1 (by omega)
              obtain ⟨ad', Bc, ec, hA, hck, hcl2, hcr⟩ := at_L1 (Kd.C_below HR.out (HB.out.trans (HBo.out.mono HB.out.size))) (k : Int) (by omega) hltk
              obtain rfl : ad = ad' := Option.some.inj hA
              clear hA
              rw [Int.toNat_natCast] at hck
              rw [rdL_getD] at hck hcl2 hcr
              have hzl := (ids_facts (HAll.out _ (getD_mem l k (by omega)))).1
              obtain ⟨col, hcol⟩ : ∃ c, c = l.getD k [] := ⟨_, rfl⟩
              rw [← hcol] at has hck hcl2 hcr hzl
              have HAS := Aside0.mk has
              have HCK := Aside0.mk hcr
              have HZL := Aside0.mk hzl
              clear hcol has hcr hzl
              cases hb : allK l x k with
              | false =>
                have HBB := Aside0.mk hb
                clear hb
                go_upto_region 17 with fail
                go_quiet (fail)
                go_wp2_with fail
                go_roundg gi
                case measure => omega
                case rel => exact ⟨k + 1, by omega, by omega, rfl, by rw [HAS.out, HBB.out]; rfl, ⟨by first | exact HBk.out | exact pw_below_drewN HBk.out _ | exact below_drew HBk.out⟩⟩
              | true =>
                have HBB := Aside0.mk hb
                clear hb
                have hcc2 := cell_low HCC.out HBo.out
                have hce2 := cell_low HCE.out HBo.out
                obtain ⟨pv, hpv, hpd⟩ : ∃ pv : Int, plI col x = pv ∧ decide (0 ≤ pv) = decide (x ∈ col) := by
                  by_cases hm : x ∈ col
                  · obtain ⟨q, _, hq⟩ := pl_at hm
                    exact ⟨_, hq, by rw [decide_eq_true hm, decide_eq_true (by omega)]⟩
                  · exact ⟨_, pl_none hm, by rw [decide_eq_false hm]; rfl⟩
                have HPV := Aside0.mk hpv
                have HPD := Aside0.mk hpd
                clear hpv hpd
                have qi0 : (0 < l.length) = True := eq_true (by omega)
                have hhd : Held wr wr.drew := ⟨below_drew (Below.refl _ _)⟩
                have q1 := cell_low hcc2 hhd.out
                have q2 := cell_low hce2 hhd.out
                have q3 := cell_low hck hhd.out
                have HQ := Aside0.mk (And.intro hcc2 (And.intro hce2 hck))
                clear hcc2 hce2 hck
                go_upto_region 17 with fail
                go_region_held3 (fun w' => w'.cell? ad = some (.slice (some ae) c0.length cc) ∧ w'.cell? (ae.add i) = some (.int .i64 x) ∧ w'.cell? (ad.add k) = some (.slice Bc col.length ec) ∧ Held wr w') (refine ⟨?_, ?_, ?_, ?_⟩ <;> assumption)
                (first
                  | (go_at_call_of 55 (Value.slice Bc col.length ec); refine (place_held (by assumption : Held wr _) HCK.out hcl2 (by have := HZL.out; omega) HPV.out).mono ?_; rintro e w' ⟨rfl, hH⟩; have p1 := cell_low HQ.out.1 hH.out; have p2 := cell_low HQ.out.2.1 hH.out; have p3 := cell_low HQ.out.2.2 hH.out))
                all_goals go_wp2_with fail
                go_roundg gi
                case measure => omega
                case rel => exact ⟨k + 1, by omega, by omega, rfl, by rw [HAS.out, HBB.out, HPD.out]; rfl, ⟨HBk.out.trans ((Held.out (by assumption : Held wr _)).mono HBk.out.size)⟩⟩
            | zero =>
              have hltk : ¬ (k : Int) < (l.length : Int) := by omega
              have HKE := Aside0.mk (show allK l x k = keep l x by rw [show k = l.length by omega]; exact allK_end l x)
              have HO2 := Aside0.mk (Kd.R_below HO.out HBk.out)
              have HOS := Aside0.mk (show outR l (i + 1) = if keep l x = true then insI x (outR l i) else outR l i by rw [HX.out, HC0.out]; rfl)
              have hcc2 := cell_low HCC.out HBo.out
              have hce2 := cell_low HCE.out HBo.out
              cases hkeep : keep l x with
              | false =>
                have hK := HKE.out
                rw [hkeep] at hK
                have HKF := Aside0.mk hkeep
                clear hkeep
                go_wp2_with fail
                go_roundg g
                case measure => omega
                case rel =>
                  refine ⟨i + 1, by omega, rfl, ⟨?_⟩, HBo⟩
                  rw [HOS.out, HKF.out]
                  exact HO2.out
              | true =>
                have hK := HKE.out
                rw [hkeep] at hK
                have HKF := Aside0.mk hkeep
                clear hkeep
                have HLEN := Aside0.mk (outR_len l i (by rw [← HC0.out]; omega))
                obtain ⟨o, ho⟩ : ∃ o, o = outR l i := ⟨_, rfl⟩
                rw [← ho] at HO2 HOS HLEN
                clear ho HO
                obtain ⟨A6, n6, c6, hv6⟩ : ∃ A n c, u6 = .slice A n c := (let ⟨A, c, h⟩ := Kd.R_slice HO2.out; ⟨A, _, c, h⟩)
                subst hv6
                have hn6 := (Kd.R_reads' HO2.out).1
                subst hn6
                obtain ⟨wy, hwy⟩ : ∃ W, W = wr := ⟨_, rfl⟩
                rw [← hwy] at HBk HBo HO2 hcc2 hce2
                rw [← hwy]
                clear hwy wr
                have HCC2 := Aside0.mk hcc2
                have HCE2 := Aside0.mk hce2
                clear hcc2 hce2
                go_wp2_with fail
                go_loopg [10] o.length (fun g v10 wx => ∃ p : Nat, p + g = o.length ∧ v10 = .int .i64 (p : Int) ∧ Aside0 (∀ j, j < p → rd o (j : Int) < x) ∧ Aside0 (Below wy.heap.size wy wx))
                case atStart => exact ⟨0, by omega, rfl, ⟨fun j hj => by omega⟩, ⟨Below.refl _ _⟩⟩
                case round =>
                  obtain ⟨p, hpg, rfl, HLT, HBp⟩ := hrel
                  have HPL := Aside0.mk (posI_ge x o p (by omega) HLT.out)
                  have HO3 := Aside0.mk (Kd.R_below HO2.out HBp.out)
                  have hcc3 := cell_low HCC2.out HBp.out
                  have hce3 := cell_low HCE2.out HBp.out
                  have qi0 : (0 < l.length) = True := eq_true (by omega)
                  obtain ⟨b, hb⟩ : ∃ b : Bool, b = decide (p < o.length ∧ rd o (p : Int) < x) := ⟨_, rfl⟩
                  have HBB := Aside0.mk hb
                  go_upto_region 20 with fail
                  go_cut [79] from 63 to 81 (fun v79 wx => v79 = .bool b ∧ Aside0 (Below wr.heap.size wr wx))
                  case first =>
                    by_cases hpo : p < o.length
                    · have hpi : (p : Int) < (o.length : Int) := by omega
                      obtain ⟨ao, rfl, hco⟩ := Kd.at_int (Kd.R_reads' HO3.out).2.2 (p : Int) (by omega) hpi
                      rw [Int.toNat_natCast] at hco
                      obtain ⟨y, hy⟩ : ∃ y, y = rd o (p : Int) := ⟨_, rfl⟩
                      rw [← hy] at hco
                      have HY := Aside0.mk hy
                      clear hy hb
                      go_quiet (fail)
                      go_wp2_with fail
                      go_meet
                      case rel =>
                        refine ⟨?_, ⟨by first | exact Below.refl _ _ | exact pw_below_drewN (Below.refl _ _) _ | exact below_drew (Below.refl _ _)⟩⟩
                        rw [HBB.out, ← HY.out]
                        simp [hpo]
                    · have hpi : ¬ (p : Int) < (o.length : Int) := by omega
                      clear hb
                      go_quiet (fail)
                      go_wp2_with fail
                      go_meet
                      case rel =>
                        refine ⟨?_, ⟨by first | exact Below.refl _ _ | exact pw_below_drewN (Below.refl _ _) _ | exact below_drew (Below.refl _ _)⟩⟩
                        rw [HBB.out]
                        simp [hpo]
                  case rest =>
                    obtain ⟨rfl, HBc⟩ := hcut
                    have HBp2 := Aside0.mk (HBp.out.trans (HBc.out.mono HBp.out.size))
                    cases b with
                    | true =>
                      have hb2 := HBB.out.symm
                      rw [decide_eq_true_iff] at hb2
                      cases gk with
                      | zero => exact absurd hb2.1 (by omega)
                      | succ gp =>
                        have HBX := Aside0.mk hb2
                        have hp256 : (p : Int) < 256 := by have := HLEN.out; omega
                        clear hb hb2
                        go_wp2_with fail
                        go_roundg gp
                        case measure => omega
                        case rel =>
                          refine ⟨p + 1, by omega, rfl, ⟨fun j hj => ?_⟩, HBp2⟩
                          by_cases e : j = p
                          · rw [e]; exact HBX.out.2
                          · exact HLT.out j (by omega)
                    | false =>
                      have hb2 := HBB.out.symm
                      rw [decide_eq_false_iff_not] at hb2
                      have HPE := Aside0.mk (posI_stop x o p HPL.out (fun h1 h2 => hb2 ⟨h1, h2⟩))
                      have HO4 := Aside0.mk (Kd.R_below HO2.out HBp2.out)
                      have hcc4 := cell_low HCC2.out HBp2.out
                      have hce4 := cell_low HCE2.out HBp2.out
                      clear hb hb2 hcc3 hce3 HO3
                      go_upto_region 22 with fail
                      have hp256 : (p : Int) < 256 := by have := HLEN.out; have := posI_le x o; omega
                      have hpo : (p : Int) ≤ (o.length : Int) := by have := HPE.out; have := posI_le x o; omega
                      have hoc : (o.length : Int) ≤ (c6 : Int) := by have := (Kd.R_reads' HO4.out).2.1; omega
                      have qp1 : p ≤ c6 := by omega
                      have qp2 : p ≤ o.length := by omega
                      have qp3 : o.length ≤ c6 := by omega
                      have HCC4 := Aside0.mk hcc4
                      have HCE4 := Aside0.mk hce4
                      refine start_ (n := 16) (S := fun w' => w'.cell? ad = some (.slice (some ae) c0.length cc) ∧ w'.cell? (ae.add i) = some (.int .i64 x)) (ds := []) #[false, false, false, false, false, false, false, false, false, false, false, false, false, false, false, false] (by kernel_rfl) rfl rfl ⟨cell_low hcc4 (below_drew (Below.refl _ _)), cell_low hce4 (below_drew (Below.refl _ _))⟩ (fun hHeld => ?_)
                      have HBu := Aside0.mk (below_drew (Below.refl wc.heap.size wc))
                      have HOu := Aside0.mk (Kd.R_below HO4.out HBu.out)
                      generalize wc.drew = u at HBu HOu hHeld ⊢
                      refine pure_ (i := 0) (N := some 82) (v := ?_) (a' := ?_) #[true, false, false, false, false, false, false, false, false, false, false, false, false, false, false, false] rfl rfl (by kernel_rfl) (fun _ _ _ h => h) (Or.inl ⟨by rfl, ?_⟩) ?_ ?_
                      rotate_left
                      · intro w'
                        go_simp
                        try with_reducible rfl
                      rotate_left
                      · simp only [Act.put, List.setIfInBounds_toArray, List.set_cons_zero, List.set_cons_succ, i64_w, i32_w]
                        rfl
                      refine pure_ (i := 1) (N := some 83) (v := ?_) (a' := ?_) #[true, true, false, false, false, false, false, false, false, false, false, false, false, false, false, false] rfl rfl (by kernel_rfl) (fun _ _ _ h => h) (Or.inl ⟨by rfl, ?_⟩) ?_ ?_
                      rotate_left
                      · intro w'
                        go_simp
                        try with_reducible rfl
                      rotate_left
                      · simp only [Act.put, List.setIfInBounds_toArray, List.set_cons_zero, List.set_cons_succ, i64_w, i32_w]
                        rfl
                      refine pure_ (i := 2) (N := some 84) (v := ?_) (a' := ?_) #[true, true, true, false, false, false, false, false, false, false, false, false, false, false, false, false] rfl rfl (by kernel_rfl) (fun _ _ _ h => h) (Or.inl ⟨by rfl, ?_⟩) ?_ ?_
                      rotate_left
                      · intro w'
                        go_simp
                        try with_reducible rfl
                      rotate_left
                      · simp only [Act.put, List.setIfInBounds_toArray, List.set_cons_zero, List.set_cons_succ, i64_w, i32_w]
                        rfl
                      refine pure_ (i := 3) (N := some 85) (v := ?_) (a' := ?_) #[true, true, true, true, false, false, false, false, false, false, false, false, false, false, false, false] rfl rfl (by kernel_rfl) (fun _ _ _ h => h) (Or.inl ⟨by rfl, ?_⟩) ?_ ?_
                      rotate_left
                      · intro w'
                        go_simp
                        try with_reducible rfl
                      rotate_left
                      · simp only [Act.put, List.setIfInBounds_toArray, List.set_cons_zero, List.set_cons_succ, i64_w, i32_w]
                        rfl
                      refine pure_ (i := 4) (N := some 86) (v := ?_) (a' := ?_) #[true, true, true, true, true, false, false, false, false, false, false, false, false, false, false, false] rfl rfl (by kernel_rfl) (fun _ _ _ h => h) (Or.inl ⟨by rfl, ?_⟩) ?_ ?_
                      rotate_left
                      · intro w'
                        go_simp
                        try with_reducible rfl
                      rotate_left
                      · simp only [Act.put, List.setIfInBounds_toArray, List.set_cons_zero, List.set_cons_succ, i64_w, i32_w]
                        rfl
                      refine take_ (i := 5) (N := some 87) (v := ?_) (a' := ?_) #[true, true, true, true, true, true, false, false, false, false, false, false, false, false, false, false] rfl rfl (by kernel_rfl) (fun _ _ _ h => h) (Or.inl ⟨by rfl, ?_⟩) hHeld ?_ ?_
                      rotate_left
                      · intro w' hSw
                        go_simp
                        try with_reducible rfl
                      rotate_left
                      · simp only [Act.put, List.setIfInBounds_toArray, List.set_cons_zero, List.set_cons_succ, i64_w, i32_w]
                        rfl
                      refine pure_ (i := 6) (N := some 88) (v := ?_) (a' := ?_) #[true, true, true, true, true, true, true, false, false, false, false, false, false, false, false, false] rfl rfl (by kernel_rfl) (fun _ _ _ h => h) (Or.inl ⟨by rfl, ?_⟩) ?_ ?_
                      rotate_left
                      · intro w'
                        go_simp
                        try with_reducible rfl
                      rotate_left
                      · simp only [Act.put, List.setIfInBounds_toArray, List.set_cons_zero, List.set_cons_succ, i64_w, i32_w]
                        rfl
                      refine pure_ (i := 7) (N := some 89) (v := ?_) (a' := ?_) #[true, true, true, true, true, true, true, true, false, false, false, false, false, false, false, false] rfl rfl (by kernel_rfl) (fun _ _ _ h => h) (Or.inl ⟨by rfl, ?_⟩) ?_ ?_
                      rotate_left
                      · intro w'
                        go_simp
                        try with_reducible rfl
                      rotate_left
                      · simp only [Act.put, List.setIfInBounds_toArray, List.set_cons_zero, List.set_cons_succ, i64_w, i32_w]
                        rfl
                      refine take_ (i := 8) (N := some 90) (v := ?_) (a' := ?_) #[true, true, true, true, true, true, true, true, true, false, false, false, false, false, false, false] rfl rfl (by kernel_rfl) (fun _ _ _ h => h) (Or.inl ⟨by rfl, ?_⟩) hHeld ?_ ?_
                      rotate_left
                      · intro w' hSw
                        go_simp
                        try with_reducible rfl
                      rotate_left
                      · simp only [Act.put, List.setIfInBounds_toArray, List.set_cons_zero, List.set_cons_succ, i64_w, i32_w]
                        rfl
                      refine pure_ (i := 10) (N := some 92) (v := ?_) (a' := ?_) #[true, true, true, true, true, true, true, true, true, false, true, false, false, false, false, false] rfl rfl (by kernel_rfl) (fun _ _ _ h => h) (Or.inl ⟨by rfl, ?_⟩) ?_ ?_
                      rotate_left
                      · intro w'
                        go_simp
                        try with_reducible rfl
                      rotate_left
                      · simp only [Act.put, List.setIfInBounds_toArray, List.set_cons_zero, List.set_cons_succ, i64_w, i32_w]
                        rfl
                      refine pure_ (i := 11) (N := some 93) (v := ?_) (a' := ?_) #[true, true, true, true, true, true, true, true, true, false, true, true, false, false, false, false] rfl rfl (by kernel_rfl) (fun _ _ _ h => h) (Or.inl ⟨by rfl, ?_⟩) ?_ ?_
                      rotate_left
                      · intro w'
                        go_simp
                        try with_reducible rfl
                      rotate_left
                      · simp only [Act.put, List.setIfInBounds_toArray, List.set_cons_zero, List.set_cons_succ, i64_w, i32_w]
                        rfl
                      refine pure_ (i := 12) (N := some 94) (v := ?_) (a' := ?_) #[true, true, true, true, true, true, true, true, true, false, true, true, true, false, false, false] rfl rfl (by kernel_rfl) (fun _ _ _ h => h) (Or.inl ⟨by rfl, ?_⟩) ?_ ?_
                      rotate_left
                      · intro w'
                        go_simp
                        try with_reducible rfl
                      rotate_left
                      · simp only [Act.put, List.setIfInBounds_toArray, List.set_cons_zero, List.set_cons_succ, i64_w, i32_w]
                        rfl
                      refine one_ (i := 9) (N := some 91) #[true, true, true, true, true, true, true, true, true, true, true, true, true, false, false, false] rfl rfl (by kernel_rfl) (by decide) (fun K hK => ?_)
                      refine Kd.R_lit_step (Kd.int .i64) _ 3 (by rfl) (N := 91) rfl (xs := [x]) (inner := [.int .i64 x]) (ok := fun _ => True) (okp := fun _ => True) (by go_simp) (Kd.reps_scalar [x]) (fun _ hk => hk) trivial (Below.refl _ _) (Nat.le_refl _) (by simp) ?_
                      intro v91 u1 ho1 hb1 hg1_ hn1_
                      clear hg1_ hn1_
                      have HO1 := Aside0.mk ho1
                      have HB1 := Aside0.mk (HBu.out.trans (hb1.mono HBu.out.size))
                      have HOa := Aside0.mk (Kd.R_below HOu.out hb1)
                      have HBu1 := Aside0.mk hb1
                      have HDR := Aside0.mk (Kd.C_drop (Kd.R_reads' HOa.out).2.2 qp2 qp3)
                      clear ho1 hb1
                      refine hK.out _ _ (⟨cell_low HCC4.out (HB1.out), cell_low HCE4.out (HB1.out)⟩) (fun hHeld => ?_)
                      clear hK K
                      refine norm_ (a' := ?_) ?_ ?_
                      rotate_left
                      · show Act.put _ (some 91) _ = _
                        simp only [Act.put, List.setIfInBounds_toArray, List.set_cons_zero, List.set_cons_succ, i64_w, i32_w]
                        rfl
                      refine one_ (i := 13) (N := some 95) #[true, true, true, true, true, true, true, true, true, true, true, true, true, true, false, false] rfl rfl (by kernel_rfl) (by decide) (fun K hK => ?_)
                      refine Kd.R_append_rows_step (Kd.int .i64) (w0 := u) u.heap.size (by rfl) (.tmp 91) (.tmp 94) 31 3 (.int .i64 0) 8 rfl Try.underlying31 info3 rfl (by decide) (by omega) v91 [x] (o.drop p) _ _ (c6 - p) (fun _ => True) (fun _ => False) rfl ?hx HO1.out HDR.out (fun _ _ h => h) (fun _ h => h.elim) (fun _ _ => trivial) HBu1.out HBu1.out.size ?hl ?_
                      case hx => go_simp; rw [show p * (Kd.int IntKind.i64).sz = p from Nat.mul_one p]
                      case hl => have := HLEN.out; rw [List.length_drop]; simp only [List.length_singleton]; omega
                      intro v95 u2 ho2 hb2 hg2_ hn2_
                      clear hg2_ hn2_
                      obtain ⟨A95, n95, c95, hv95⟩ : ∃ A n c, v95 = .slice A n c := (let ⟨A, c, h⟩ := Kd.R_slice ho2; ⟨A, _, c, h⟩)
                      subst hv95
                      have HO2b := Aside0.mk ho2
                      have HB2b := Aside0.mk (HBu.out.trans (hb2.mono HBu.out.size))
                      have HOb := Aside0.mk (Kd.R_take (Kd.R_below HOu.out hb2) qp2)
                      clear ho2 hb2
                      refine hK.out _ _ (⟨cell_low HCC4.out (HB2b.out), cell_low HCE4.out (HB2b.out)⟩) (fun hHeld => ?_)
                      clear hK K
                      refine norm_ (a' := ?_) ?_ ?_
                      rotate_left
                      · show Act.put _ (some 95) _ = _
                        simp only [Act.put, List.setIfInBounds_toArray, List.set_cons_zero, List.set_cons_succ, i64_w, i32_w]
                        rfl
                      refine one_ (i := 14) (N := some 96) #[true, true, true, true, true, true, true, true, true, true, true, true, true, true, true, false] rfl rfl (by kernel_rfl) (by decide) (fun K hK => ?_)
                      have HBf := Aside0.mk (HBo.out.trans ((HBp2.out.trans (HB2b.out.mono HBp2.out.size)).mono HBo.out.size))
                      refine Kd.R_append_rows_step (Kd.int .i64) (w0 := wo) wo.heap.size (by rfl) (.tmp 84) (.tmp 95) 31 3 (.int .i64 0) 8 rfl Try.underlying31 info3 rfl (by decide) (by omega) (.slice A6 p c6) (o.take p) ([x] ++ o.drop p) _ _ _ (fun _ => True) (fun _ => False) rfl rfl HOb.out (by have h := (Kd.R_reads' HO2b.out); rw [← h.1] at h; exact h.2.2) (fun _ _ h => h) (fun _ h => h.elim) (fun _ _ => trivial) HBf.out HBf.out.size ?hl ?_
                      case hl => have := HLEN.out; have h := (Kd.R_reads' HO2b.out).1; rw [List.length_append, List.length_drop, List.length_singleton] at h; rw [List.length_take]; omega
                      intro v96 u3 ho3 hb3 hg3_ hn3_
                      clear hg3_ hn3_
                      obtain ⟨A96, n96, c96, hv96⟩ : ∃ A n c, v96 = .slice A n c := (let ⟨A, c, h⟩ := Kd.R_slice ho3; ⟨A, _, c, h⟩)
                      subst hv96
                      have HO3b := Aside0.mk ho3
                      have HB3b := Aside0.mk hb3
                      clear ho3 hb3
                      refine hK.out _ _ (⟨cell_low HCC.out HB3b.out, cell_low HCE.out HB3b.out⟩) (fun hHeld => ?_)
                      clear hK K
                      refine norm_ (a' := ?_) ?_ ?_
                      rotate_left
                      · show Act.put _ (some 96) _ = _
                        simp only [Act.put, List.setIfInBounds_toArray, List.set_cons_zero, List.set_cons_succ, i64_w, i32_w]
                        rfl
                      refine pure_ (i := 15) (N := some 6) (v := ?_) (a' := ?_) #[true, true, true, true, true, true, true, true, true, true, true, true, true, true, true, true] rfl rfl (by kernel_rfl) (fun _ _ _ h => h) (Or.inl ⟨by rfl, ?_⟩) ?_ ?_
                      rotate_left
                      · intro w'
                        go_simp
                        try with_reducible rfl
                      rotate_left
                      · simp only [Act.put, List.setIfInBounds_toArray, List.set_cons_zero, List.set_cons_succ, i64_w, i32_w]
                        rfl
                      refine done_ (by kernel_rfl) ?_
                      go_wp2_with fail
                      all_goals
                        go_roundg g
                        case measure => omega
                        case rel =>
                          refine ⟨i + 1, by omega, rfl, ⟨?_⟩, HB3b⟩
                          rw [HOS.out, if_pos HKF.out, insI_at, HPE.out]
                          exact HO3b.out
theorem ref_align_calls (A : Option Addr) (c : Nat) (l : List (List Int)) (w : World) (hr : Kd.C (Kd.slice 3 (Kd.int .i64)) w A l.length l) : Calls Try.prog 30 #[.slice A l.length c] w (AlignPost w (alignP l)) := by
  unfold alignP
  by_cases h : l.length = 0 ∨ 16 < l.length
  · have hm : manyL l = 1 := if_pos h
    rw [hm, if_neg (by decide)]
    exact ref_align_few A c l w h
  · have h2 := ref_align_more A c l w hr h
    by_cases hi : ∀ x ∈ l, idsB x = true
    · have ha : l.any (fun x => !idsB x) = false := by
        rw [List.any_eq_false]
        intro x hx
        rw [hi x hx]
        decide
      have hm : manyL l = 0 := by unfold manyL; rw [if_neg h, ha]; rfl
      rw [if_pos hm, align_eq l (by omega) hi]
      rw [show refP l = (outR l (l.getD 0 []).length, 0) from if_pos hi] at h2
      exact h2
    · have ha : l.any (fun x => !idsB x) = true := by
        rw [List.any_eq_true]
        simp only [Classical.not_forall] at hi
        obtain ⟨x, hx, hb⟩ := hi
        exact ⟨x, hx, by rw [Bool.eq_false_iff.2 hb]; rfl⟩
      have hm : manyL l = 20 := by unfold manyL; rw [if_neg h, ha]; rfl
      rw [hm, if_neg (by decide)]
      rw [show refP l = ([], 20) from if_neg hi] at h2
      exact h2
end Go.Proofs.Ytdlkcohfgfnkbaa.Ai
