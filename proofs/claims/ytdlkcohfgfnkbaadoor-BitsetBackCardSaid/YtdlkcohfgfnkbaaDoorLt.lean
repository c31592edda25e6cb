/- BitsetTells: the walk. -/
import Derived.Test.YtdlkcohfgfnkbaaDoorLs
import Derived.Test.YtdlkcohfgfnkbaaDoorBr
import Derived.Deep.RegionHeld3
namespace Go.Proofs.YtdlkcohfgfnkbaaDoor.Lt
open Go.RowKit Go.Proofs.YtdlkcohfgfnkbaaDoor.PBitsetTells Go.Proofs.YtdlkcohfgfnkbaaDoor.Bp Go.Proofs.YtdlkcohfgfnkbaaDoor.Ls Go.Proofs.YtdlkcohfgfnkbaaDoor.Ob Go.Proofs.YtdlkcohfgfnkbaaDoor.Tz Go.Proofs.YtdlkcohfgfnkbaaDoorW.PrintWords Go.Proofs.YtdlkcohfgfnkbaaDoorW.PrintLast Go.Proofs.YtdlkcohfgfnkbaaDoorW.PrintMore
set_option linter.unusedSimpArgs false
set_option linter.unusedVariables false

theorem few_one (w : World) (N : Int) (A : Option Addr) (ca : Nat) (a : List Int) (hca : a.length ≤ ca) (hra : Kd.C (Kd.int .u64) w A a.length a) (fr : Nat × Nat) :
    Kd.C k24 (w.alloc (.cells #[.int .i64 N, .slice A a.length ca] 24 fr)) (some ⟨w.heap.size, 0, none⟩) ([⟨N, a⟩] : List S24).length [⟨N, a⟩] := by
  refine ⟨rfl, by simp, fun _ => ⟨_, rfl, fun j p hj => ?_⟩⟩
  have hW := below_alloc (Below.refl _ w) (.cells #[.int .i64 N, .slice A a.length ca] 24 fr)
  match j, hj with
  | 0, hj =>
    obtain rfl := Option.some.inj hj
    refine ⟨[.int .i64 N, .slice A a.length ca], rfl, k24_mk _ ⟨N, a⟩ hca (Kd.C_below hra hW), fun i u hu => ?_⟩
    rw [add_plain, World.cell?_alloc_mark]
    match i, hu with
    | 0, hu => exact hu
    | 1, hu => exact hu
    | i + 2, hu => simp at hu
  | j + 1, hj => simp at hj
theorem const_reads (w : World) (t : TypeId) (fr : Nat × Nat) (k : IntKind) (xs : List Int) (hl : xs.length ≤ 9223372036854775807) : Kd.C (Kd.int k) (w.alloc (.cells (xs.map (Value.int k)).toArray t fr)) (some ⟨w.heap.size, 0, none⟩) xs.length xs := by
  refine Kd.C_of_reads (d := (0 : Int)) (h1 := fun _ => rfl) ⟨rfl, hl, fun hp => ⟨_, rfl, fun i hi => ?_⟩⟩
  rw [add_plain, World.cell?_alloc_mark]
  simp [List.getElem?_eq_getElem hi]
theorem same_l0 (a : List Int) (hl : a.length ≤ 140737488351232) : ∀ (d i : Nat), i + d = a.length → Ev (fun k => windbreakref12_SameInts.l0 k a a (i : Int)) true
  | 0, i, hi => by
    refine Ev.step (fun k => ?_) (Ev.now _)
    simp only [windbreakref12_SameInts.l0]
    rw [if_neg (by omega)]
  | d + 1, i, hi => by
    have ih := same_l0 a hl d (i + 1) (by omega)
    refine Ev.step (fun k => ?_) ih
    simp only [windbreakref12_SameInts.l0]
    rw [if_pos (by omega), if_pos (by omega), if_pos (by omega), if_pos trivial, wrap64_small (by omega) (by omega)]
    rfl
theorem ref_sameSelf (a : List Int) (hl : a.length ≤ 140737488351232) : Ev (fun k => windbreakref12_SameInts.f k a a) true := by
  have := same_l0 a hl a.length 0 (by omega)
  refine Ev.congr (fun k => ?_) this
  unfold windbreakref12_SameInts.f
  rw [if_pos rfl]
  rfl
theorem has_one : hasS 1 [1] 0 = true := by decide +kernel
/-- What lay in W lies as it lay. -/
structure Held (W w : World) : Prop where
  out : Below W.heap.size W w
theorem held_cells {W w : World} {g t : Nat} {x y : Value} (h : Held W w) (hb : W.heap[g]? = some (.cells #[x, y] t (0, 0))) : w.cell? ⟨g, 0, none⟩ = some x ∧ w.cell? ⟨g, 1, none⟩ = some y := two_cells (blk_below hb h.out)
section
variable {W w : World} {N i : Int} {A : Option Addr} {c : Nat} {ws : List Int}
theorem right_held (h : Held W w) (hr : Kd.C (Kd.int .u64) W A ws.length ws) (hc : ws.length ≤ c) (hw : Wf ws) (hl : ws.length ≤ 2000) (r : Bool) (hq : rightB N ws = r) :
    Calls Tryd.prog 10 #[.agg #[.int .i64 N, .slice A ws.length c]] w fun e w' => e = .returned (.bool r) ∧ Held W w' :=
  (bitset_Right.calls N A c ws r w (Kd.C_below hr h.out) hc (by rw [prog_right N ws hw (by omega), hq])).mono fun e w' hh => ⟨hh.1, ⟨h.out.trans (hh.2.mono h.out.size)⟩⟩
theorem ref_right_held (h : Held W w) (hr : Kd.C (Kd.int .u64) W A ws.length ws) (hc : ws.length ≤ c) (hw : Wf ws) (hl : ws.length ≤ 2000) (r : Bool) (hq : rightB N ws = r) :
    Calls Tryd.prog 11 #[.agg #[.int .i64 N, .slice A ws.length c]] w fun e w' => e = .returned (.bool r) ∧ Held W w' := by
  obtain ⟨k, hk⟩ := (ref_right N ws hw (by omega)).rounds
  exact (windbreakref14_Right.calls k N A c ws r w (Kd.C_below hr h.out) hc (by rw [hk, hq])).mono fun e w' hh => ⟨hh.1, ⟨h.out.trans (hh.2.mono h.out.size)⟩⟩
theorem has_held (h : Held W w) (hr : Kd.C (Kd.int .u64) W A ws.length ws) (hc : ws.length ≤ c) (hw : Wf ws) (hl : ws.length ≤ 2000) (r : Bool) (hq : hasS N ws i = r) :
    Calls Tryd.prog 9 #[.agg #[.int .i64 N, .slice A ws.length c], .int .i64 i] w fun e w' => e = .returned (.bool r) ∧ Held W w' :=
  (bitset_Has.calls N A c ws i r w (Kd.C_below hr h.out) hc (by rw [prog_has N ws i hw (by omega), hq])).mono fun e w' hh => ⟨hh.1, ⟨h.out.trans (hh.2.mono h.out.size)⟩⟩
theorem ref_has_held (h : Held W w) (hr : Kd.C (Kd.int .u64) W A ws.length ws) (hc : ws.length ≤ c) (hw : Wf ws) (hl : ws.length ≤ 2000) (r : Bool) (hq : hasS N ws i = r) :
    Calls Tryd.prog 12 #[.agg #[.int .i64 N, .slice A ws.length c], .int .i64 i] w fun e w' => e = .returned (.bool r) ∧ Held W w' := by
  obtain ⟨k, hk⟩ := (ref_has N ws i hw (by omega)).rounds
  exact (windbreakref14_Has.calls k N A c ws i r w (Kd.C_below hr h.out) hc (by rw [hk, hq])).mono fun e w' hh => ⟨hh.1, ⟨h.out.trans (hh.2.mono h.out.size)⟩⟩
theorem count_held (h : Held W w) (hr : Kd.C (Kd.int .u64) W A ws.length ws) (hc : ws.length ≤ c) (hw : Wf ws) (hl : ws.length ≤ 2000) (r : Int) (hq : countS N ws = r) :
    Calls Tryd.prog 13 #[.agg #[.int .i64 N, .slice A ws.length c]] w fun e w' => e = .returned (.int .i64 r) ∧ Held W w' := by
  obtain ⟨k, hk⟩ := (prog_count N ws hw (by omega)).rounds
  exact (bitset_Count.calls k N A c ws r w (Kd.C_below hr h.out) hc (by rw [hk, hq])).mono fun e w' hh => ⟨hh.1, ⟨h.out.trans (hh.2.mono h.out.size)⟩⟩
theorem ref_count_held (h : Held W w) (hr : Kd.C (Kd.int .u64) W A ws.length ws) (hc : ws.length ≤ c) (hw : Wf ws) (hl : ws.length ≤ 2000) (r : Int) (hq : countS N ws = r) :
    Calls Tryd.prog 14 #[.agg #[.int .i64 N, .slice A ws.length c]] w fun e w' => e = .returned (.int .i64 r) ∧ Held W w' := by
  obtain ⟨k, hk⟩ := (ref_count N ws hw (by omega)).rounds
  exact (windbreakref14_Count.calls k N A c ws r w (Kd.C_below hr h.out) hc (by rw [hk, ← count_list, hq])).mono fun e w' hh => ⟨hh.1, ⟨h.out.trans (hh.2.mono h.out.size)⟩⟩
end
set_option maxRecDepth 100000 in
set_option maxHeartbeats 2000000 in
theorem tells_calls (N : Int) (ws : List Int) (A : Option Addr) (c : Nat) (i : Int) (w : World) (ha : IsBt w A c (N, ws)) (hT : Tab w) :
    Calls Tryd.prog 3 #[.agg #[.int .i64 N, .slice A ws.length c], .int .i64 i] w fun e w' => e = .returned (.bool true) ∧ Below w.heap.size w w' := by
  have HA := Aside0.mk ha
  have HT := Aside0.mk hT
  obtain ⟨q, hq⟩ : ∃ q, ([⟨N, ws⟩] : List S24).all (fun s => decide (s.f1.length ≤ 2000)) = q := ⟨_, rfl⟩
  obtain ⟨kf, hkf⟩ := (ref_few [⟨N, ws⟩] (by simp)).rounds
  rw [hq] at hkf
  have HF := Aside0.mk hkf
  have HQ := Aside0.mk hq
  have hcap : ws.length ≤ c := ha.cap
  clear ha hq hkf hT
  go_enter Tryd.func3, Tryd.ntmps3
  go_wp2_with fail
  obtain ⟨W0, hW0⟩ : ∃ W, W = w.alloc (.cells #[.int .i64 N, .slice A ws.length c] 24) := ⟨_, rfl⟩
  have hz0 : W0.heap.size = w.heap.size + 1 := by rw [hW0, World.size_alloc]
  have hB0 : Below w.heap.size w W0 := by rw [hW0]; exact below_alloc (Below.refl _ _) _
  have kA : W0.heap[w.heap.size]? = some (.cells #[.int .i64 N, .slice A ws.length c] 24 (0, 0)) := by rw [hW0]; exact blk_new w _
  have hfew := few_one W0 N A c ws hcap (Kd.C_below HA.out.reads hB0) (0, 0)
  rw [← hz0, ← hW0]
  have HB0 := Aside0.mk hB0
  have HK0 := Aside0.mk kA
  refine (windbreaklaw14_few.calls kf (some ⟨W0.heap.size, 0, none⟩) 1 _ q _ hfew (by simp) HF.out).mono ?_
  rintro e w1 ⟨rfl, hd⟩
  have HB01 := below_alloc (Below.refl _ W0) (.cells #[.int .i64 N, .slice A ws.length c] 24) |>.trans (hd.below.mono (below_alloc (Below.refl _ W0) _).size)
  have HB1 := Aside0.mk (HB0.out.trans (HB01.mono HB0.out.size))
  have HK1 := Aside0.mk (blk_below HK0.out HB01)
  clear hW0 hz0 kA hfew hB0 hd HB01 HB0 HK0
  cases q with
  | false =>
    go_wp2_with fail
    go_ret
    exact ⟨rfl, HB1.out⟩
  | true =>
    have hl2 : ws.length ≤ 2000 := by have := HQ.out; simpa using this
    obtain ⟨a0, a1⟩ := two_cells HK1.out
    go_wp2_with fail
    clear a0 a1
    refine (list_calls N A c ws _ (Kd.C_below HA.out.reads HB1.out) hcap HA.out.wf hl2 (tab_below HT.out HB1.out)).mono ?_
    rintro e w2 ⟨v2, rfl, h2, hb2⟩
    have HL := Aside0.mk (listS_len N ws)
    obtain ⟨kl, hkl⟩ := (ref_list N ws HA.out.wf (by omega)).rounds
    have HKL := Aside0.mk hkl
    obtain ⟨L, hL⟩ : ∃ L, L = listS N ws := ⟨_, rfl⟩
    rw [← hL] at h2 HL HKL
    have HLE := Aside0.mk hL
    obtain ⟨A2, c2, rfl, l2, r2⟩ := Kd.R_reads h2
    have HR2 := Aside0.mk r2
    have HB2 := Aside0.mk (HB1.out.trans (hb2.mono HB1.out.size))
    have HK2 := Aside0.mk (blk_below HK1.out hb2)
    clear h2 hb2 r2 hkl hL HB1 HK1
    obtain ⟨a0, a1⟩ := two_cells HK2.out
    go_wp2_with fail
    clear a0 a1
    refine (windbreakref14_List.calls kl N A c ws L _ (Kd.C_below HA.out.reads HB2.out) hcap HKL.out).mono ?_
    rintro e w3 ⟨v3, rfl, h3, hb3⟩
    obtain ⟨A3, c3, rfl, l3, r3⟩ := Kd.R_reads h3
    have HR3 := Aside0.mk r3
    have HR23 := Aside0.mk (Kd.C_below HR2.out hb3)
    have HB3 := Aside0.mk (HB2.out.trans (hb3.mono HB2.out.size))
    have HK3 := Aside0.mk (blk_below HK2.out hb3)
    clear h3 hb3 r3 HB2 HK2 HR2
    go_wp2_with fail
    obtain ⟨ks, hks⟩ := (ref_sameSelf L (by have := HL.out; omega)).rounds
    refine (windbreakref12_SameInts.calls ks A2 c2 L A3 c3 L true _ HR23.out l2 HR3.out l3 hks).mono ?_
    rintro e w4 ⟨rfl, hd⟩
    have HB4 := Aside0.mk (HB3.out.trans (hd.below.mono HB3.out.size))
    have HK4 := Aside0.mk (blk_below HK3.out hd.below)
    clear hd hks HB3 HK3 HR23 HR3
    go_wp2_with fail
    have hc1 := const_reads w4 30 (0, 0) .u64 [1] (by simp)
    refine (bitset_Has.calls 1 (some ⟨w4.heap.size, 0, none⟩) 1 [1] 0 true _ hc1 (by simp) (by rw [prog_has 1 [1] 0 (by intro x hx; simp at hx; omega) (by simp), has_one])).mono ?_
    rintro e w5 ⟨rfl, hb5⟩
    have HB45 := below_alloc (Below.refl _ w4) (.cells #[.int .u64 1] 30) |>.trans (hb5.mono (below_alloc (Below.refl _ w4) _).size)
    have HB5 := Aside0.mk (HB4.out.trans (HB45.mono HB4.out.size))
    have HK5 := Aside0.mk (blk_below HK4.out HB45)
    have HR5 := Aside0.mk (Kd.C_below HA.out.reads HB5.out)
    have HWF := Aside0.mk HA.out.wf
    clear hb5 HB45 hc1 HB4 HK4
    obtain ⟨r1, hr1⟩ : ∃ r, rightB N ws = r := ⟨_, rfl⟩
    obtain ⟨r2, hr2⟩ : ∃ r, hasS N ws i = r := ⟨_, rfl⟩
    obtain ⟨r3, hr3⟩ : ∃ r, countS N ws = r := ⟨_, rfl⟩
    have H1 := Aside0.mk hr1
    have H2 := Aside0.mk hr2
    have H3 := Aside0.mk hr3
    have hhd : Held w5 w5.drew := ⟨below_drew (Below.refl _ _)⟩
    obtain ⟨p1, p2⟩ := held_cells hhd HK5.out
    obtain ⟨o1, o2⟩ := two_cells HK5.out
    clear hr1 hr2 hr3
    go_wp2_with fail
    clear o1 o2
    go_region_held3 (fun w' => w'.cell? ⟨w.heap.size, 0, none⟩ = some (.int .i64 N) ∧ w'.cell? ⟨w.heap.size, 1, none⟩ = some (.slice A ws.length c) ∧ Held w5 w') (refine ⟨?_, ?_, ?_⟩ <;> assumption)
      (first
        | (go_at_call 10; refine (right_held (by assumption : Held w5 _) HR5.out hcap HWF.out hl2 r1 H1.out).mono ?_; rintro e w' ⟨rfl, hH⟩; obtain ⟨p1, p2⟩ := held_cells hH HK5.out)
        | (go_at_call 11; refine (ref_right_held (by assumption : Held w5 _) HR5.out hcap HWF.out hl2 r1 H1.out).mono ?_; rintro e w' ⟨rfl, hH⟩; obtain ⟨p1, p2⟩ := held_cells hH HK5.out)
        | (go_at_call 9; refine (has_held (by assumption : Held w5 _) HR5.out hcap HWF.out hl2 r2 H2.out).mono ?_; rintro e w' ⟨rfl, hH⟩; obtain ⟨p1, p2⟩ := held_cells hH HK5.out)
        | (go_at_call 12; refine (ref_has_held (by assumption : Held w5 _) HR5.out hcap HWF.out hl2 r2 H2.out).mono ?_; rintro e w' ⟨rfl, hH⟩; obtain ⟨p1, p2⟩ := held_cells hH HK5.out)
        | (go_at_call 13; refine (count_held (by assumption : Held w5 _) HR5.out hcap HWF.out hl2 r3 H3.out).mono ?_; rintro e w' ⟨rfl, hH⟩; obtain ⟨p1, p2⟩ := held_cells hH HK5.out)
        | (go_at_call 14; refine (ref_count_held (by assumption : Held w5 _) HR5.out hcap HWF.out hl2 r3 H3.out).mono ?_; rintro e w' ⟨rfl, hH⟩; obtain ⟨p1, p2⟩ := held_cells hH HK5.out))
    all_goals go_wp2_with fail
    all_goals go_ret
    all_goals exact ⟨by simp, HB5.out.trans ((Held.out (by assumption : Held w5 _)).mono HB5.out.size)⟩
end Go.Proofs.YtdlkcohfgfnkbaaDoor.Lt
