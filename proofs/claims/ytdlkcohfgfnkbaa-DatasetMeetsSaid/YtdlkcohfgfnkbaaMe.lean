/- DatasetMeets: the walk. -/
import Derived.Test.YtdlkcohfgfnkbaaMt
import Derived.Test.YtdlkcohfgfnkbaaTm
import Derived.Test.YtdlkcohfgfnkbaaJw
import Derived.Test.YtdlkcohfgfnkbaaSm
import Derived.Test.YtdlkcohfgfnkbaaAw
namespace Go.Proofs.Ytdlkcohfgfnkbaa.Me
open Go.RowKit Go.Proofs.Ytdlkcohfgfnkbaa.PDatasetJoins Go.Proofs.Ytdlkcohfgfnkbaa.DFns Go.Proofs.Ytdlkcohfgfnkbaa.Tp Go.Proofs.Ytdlkcohfgfnkbaa.Tr Go.Proofs.Ytdlkcohfgfnkbaa.Tq Go.Proofs.Ytdlkcohfgfnkbaa.Jp Go.Proofs.Ytdlkcohfgfnkbaa.Jt Go.Proofs.Ytdlkcohfgfnkbaa.Ot Go.Proofs.Ytdlkcohfgfnkbaa.Mt Go.Proofs.YtdlkcohfgfnkbaaW.PrintWords Go.Proofs.YtdlkcohfgfnkbaaW.PrintLast Go.Proofs.YtdlkcohfgfnkbaaW.PrintMore
set_option linter.unusedSimpArgs false
set_option linter.unusedVariables false

/-- A list of numbers as it lay in w. -/
def kI (w : World) : Kd (List Int) := Kd.fixed (Kd.slice 3 (Kd.int .i64)) w
theorem kI_read {w wx : World} (hb : Below w.heap.size w wx) {A : Option Addr} {n : Nat} {xs : List (List Int)} (h : (kI w).C wx A n xs) : (Kd.slice 3 (Kd.int .i64)).C wx A n xs :=
  Kd.C_read (dm := kI w) (d := Kd.slice 3 (Kd.int .i64)) rfl (fun x cs hk => (Kd.slice 3 (Kd.int .i64)).K_below hb hk) h
theorem info43 : (Try.prog.info? 43).map (fun i => (i.zero, i.size, i.bytes)) = some (some (.agg #[.slice none 0 0, .slice none 0 0, .slice none 0 0]), 3, 72) := by kernel_rfl
theorem mvR {α : Type} {d : Kd α} {e : Nat} {w : World} {b b' : Nat} {v : Value} {xs : List α} (h : d.R e w b (fun _ => True) v xs) (hb : b' ≤ b) : d.R e w b' (fun k => b ≤ k) v xs := Kd.R_lower (Kd.R_mono (Kd.R_bound h) (fun k hk => hk.2.1)) hb
theorem tb_of {w w' : World} {b : Nat} {ids bins : List Int} {cols : List (List Int)} (q : At) (h0 : (Kd.int .i64).R 3 w b (fun _ => True) (.slice q.A0 ids.length q.c0) ids) (h1 : (Kd.int .i64).R 3 w b (fun _ => True) (.slice q.A1 bins.length q.c1) bins) (h2 : (Kd.slice 3 (Kd.int .i64)).R 31 w b (fun _ => True) (.slice q.A2 cols.length q.c2) cols)
    {A0 A1 A2 : Option Addr} {c0 c1 c2 : Nat} (h : IsTb w' A0 A1 A2 c0 c1 c2 ids bins cols) : IsTb w q.A0 q.A1 q.A2 q.c0 q.c1 q.c2 ids bins cols := by
  obtain ⟨_, a0, r0⟩ := Kd.R_reads' h0
  obtain ⟨_, a1, r1⟩ := Kd.R_reads' h1
  obtain ⟨_, a2, r2⟩ := Kd.R_reads' h2
  exact ⟨a0, a1, a2, r0, r1, r2, h.z0, h.z1, h.z2, h.zc⟩
theorem R_put3 {α : Type} {d : Kd α} {e base : Nat} {ok : Nat → Prop} {v : Value} {l : List α} {W W' : World} {g : Nat} {cs : Array Value} (h : d.R e W base ok v l) (hb : W.heap[g]? = some (.cells cs 43 (0, 0))) (ht : ∀ q, q ∈ e :: d.E → q ≠ 43) (hk : ∀ k, k ≠ g → W'.heap[k]? = W.heap[k]?) : d.R e W' base ok v l :=
  Kd.R_mono (Kd.R_move (Kd.R_types h hb ht) (fun k hk' => hk k hk'.2)) (fun k hk' => hk'.1)
theorem ref_right_calls (A0 A1 A2 : Option Addr) (c0 c1 c2 : Nat) (ids bins : List Int) (cols : List (List Int)) (w : World) (h : IsTb w A0 A1 A2 c0 c1 c2 ids bins cols) :
    Calls Try.prog 33 #[.agg (tbV A0 A1 A2 c0 c1 c2 ids bins cols)] w fun e w' => e = .returned (.bool (tabB ids bins cols)) ∧ Below w.heap.size w w' := by
  obtain ⟨k, hk⟩ := (ref_tab ids bins cols).rounds
  exact windbreakref15_Right.calls k A0 c0 ids A1 c1 bins A2 c2 cols _ w h.r0 h.l0 h.r1 h.l1 h.r2 h.l2 hk
set_option maxRecDepth 100000 in
set_option maxHeartbeats 1000000 in
theorem meets_calls (A : Option Addr) (c : Nat) (l : List S43) (w : World) (hr : Kd.C k43 w A l.length l) (hl : l.length * 72 ≤ 140737488351232) (hz : ∀ x ∈ l, okT x) :
    Calls Try.prog 11 #[.slice A l.length c] w fun e w' => e = .returned (.bool true) ∧ Below w.heap.size w w' := by
  have HR := Aside0.mk hr
  have HZ := Aside0.mk hz
  clear hr hz
  go_enter Try.func11, Try.ntmps11
  go_wp2_with fail
  refine (Al.awake_calls _).mono ?_
  rintro e w2 ⟨rfl, hb2⟩
  have HB2 := Aside0.mk hb2
  clear hb2
  go_wp2_with fail
  go_loopg [4, 5] l.length (fun g v4 v5 wx => ∃ i : Nat, i + g = l.length ∧ v5 = .int .i64 (i : Int) ∧ Aside0 ((kI w).R 31 wx w.heap.size (fun _ => True) v4 ((l.take i).map (·.f0))) ∧ Aside0 (∀ x ∈ l.take i, tabB x.f0 x.f1 x.f2 = true) ∧ Aside0 (Below w.heap.size w wx))
  case atStart => exact ⟨0, by omega, rfl, ⟨Kd.R_nil _ _ _ _ _⟩, ⟨by simp⟩, HB2⟩
  case round =>
    clear HB2
    obtain ⟨i, hi, rfl, HI, HT, HB⟩ := hrel
    cases gk with
    | succ g =>
      have hlt : (i : Int) < (l.length : Int) := by omega
      obtain ⟨ad, A0, c0, A1, c1, A2, c2, hA, hx0, hx1, hx2, l0, g0, l1, g1, l2, g2⟩ := at_T43 (Kd.C_below HR.out HB.out) (i : Int) (by omega) hlt
      obtain ⟨ad', A0', c0', A1', c1', A2', c2', hA', hx0', hx1', hx2', l0', g0', _⟩ := at_T43 HR.out (i : Int) (by omega) hlt
      subst hA
      obtain rfl : ad = ad' := Option.some.inj hA'
      rw [Int.toNat_natCast] at hx0 hx1 hx2 hx0'
      have hq := pw_cell_below HB.out hx0'
      rw [hx0] at hq
      injection hq with hq
      injection hq with hq1 hq2 hq3
      subst hq1 hq3
      have HK0 := Aside0.mk (And.intro l0' g0')
      have hd : l.take (i + 1) = l.take i ++ [rd_T43 l (i : Int)] := by
        rw [List.take_succ_eq_append_getElem (by omega), rdT_at l i (by omega)]
      have hmem := rdT_mem l i (by omega)
      obtain ⟨z0, z1, z2, z3⟩ := HZ.out _ hmem
      have HT43 := Aside0.mk (show IsTb wr A0 A1 A2 c0 c1 c2 (rd_T43 l (i : Int)).f0 (rd_T43 l (i : Int)).f1 (rd_T43 l (i : Int)).f2 from ⟨l0, l1, l2, g0, g1, g2, z0, z1, z2, z3⟩)
      obtain ⟨x, hx⟩ : ∃ x, x = rd_T43 l (i : Int) := ⟨_, rfl⟩
      rw [← hx] at hx0 hx1 hx2 hd hmem HT43 HK0
      have HD := Aside0.mk hd
      have HM := Aside0.mk hmem
      clear hx hd hmem z0 z1 z2 z3 l0 g0 l1 g1 l2 g2 hA' hx0' hx1' hx2' l0' g0' hq2
      go_wp2_with fail
      refine (ref_right_calls A0 A1 A2 c0 c1 c2 x.f0 x.f1 x.f2 _ HT43.out).mono ?_
      rintro e w1 ⟨rfl, hb1⟩
      have HB1 := Aside0.mk (HB.out.trans (hb1.mono HB.out.size))
      have HI1 := Aside0.mk (Kd.R_below HI.out hb1)
      have h0 := pw_cell_below hb1 hx0
      clear hb1 hx0 hx1 hx2
      cases hpx : tabB x.f0 x.f1 x.f2 with
      | true =>
        have HX := Aside0.mk hpx
        clear hpx
        have HLN := Aside0.mk (show (((l.take i).map (·.f0)).length + 1) * 24 ≤ 140737488355328 by rw [List.length_map, List.length_take]; omega)
        have HSZ := Aside0.mk HB1.out.size
        have HPI := Aside0.mk (show ∀ W : World, (kI w).M W w.heap.size (fun _ => False) x.f0 [.slice A0 x.f0.length c0] from fun _ => (show ∃ A c, [Value.slice A0 x.f0.length c0] = [.slice A x.f0.length c] ∧ x.f0.length ≤ c ∧ (Kd.int .i64).C w A x.f0.length x.f0 from ⟨A0, c0, rfl, HK0.out.1, HK0.out.2⟩))
        go_wp2_with (at_builtin; (refine Kd.R_append (kI w) (w0 := w) w.heap.size rfl (.tmp 34) (.tmp 40) 36 31 (.slice none 0 0) 24 rfl Try.underlying36 info31 rfl Nat.zero_lt_one (by omega) u4 ((l.take i).map (·.f0)) x.f0 [.slice A0 x.f0.length c0] (fun _ => True) (fun _ => False) rfl rfl ?aP (fun _ h => h.elim) (fun _ _ => trivial) ?aO ?aB ?aS ?aL ?_; (case aP => exact HPI.out w1); (case aO => exact HI1.out); (case aB => exact HB1.out); (case aS => exact HSZ.out); (case aL => exact HLN.out); intro v41 w3 hi3 hb3 hg3 hn3; clear hg3 hn3; have HI3 := Aside0.mk hi3; have HB3 := Aside0.mk hb3; clear hi3 hb3))
        go_roundg g
        case measure => omega
        case rel =>
          refine ⟨i + 1, by omega, rfl, ⟨?_⟩, ⟨fun y hy => ?_⟩, HB3⟩
          · rw [HD.out, List.map_append]; exact HI3.out
          · rw [HD.out, List.mem_append, List.mem_singleton] at hy
            rcases hy with h | rfl
            · exact HT.out y h
            · exact HX.out
      | false =>
        clear h0
        go_wp2_with fail
        go_ret
        exact ⟨rfl, HB1.out⟩
    | zero =>
      have hlt : ¬ (i : Int) < (l.length : Int) := by omega
      have hil : i = l.length := by omega
      have HI2 := Aside0.mk (show (kI w).R 31 wr w.heap.size (fun _ => True) u4 (l.map (·.f0)) by have := HI.out; rw [hil, List.take_length] at this; exact this)
      have HT2 := Aside0.mk (show ∀ x ∈ l, tabB x.f0 x.f1 x.f2 = true by have := HT.out; rw [hil, List.take_length] at this; exact this)
      clear HI HT hil
      by_cases h016 : l.length = 0 ∨ 16 < l.length
      · by_cases h0 : l.length = 0
        · have h0b : ((l.length : Int) == 0) = true := by simp [h0]
          have H0 := Aside0.mk h0
          clear h016 h0
          go_wp2_with fail
          go_ret
          exact ⟨rfl, HB.out⟩
        · have h0b : ((l.length : Int) == 0) = false := by rw [beq_eq_false_iff_ne]; omega
          have h1 : (l.length : Int) > 16 := by omega
          clear h016 h0
          go_wp2_with fail
          go_ret
          exact ⟨rfl, HB.out⟩
      · have h0b : ((l.length : Int) == 0) = false := by rw [beq_eq_false_iff_ne]; omega
        have h1 : ¬ (l.length : Int) > 16 := by omega
        have H016 := Aside0.mk (show 0 < l.length ∧ l.length ≤ 16 by omega)
        clear h016
        have hids := tab_of HT2.out
        have hlen0 : 0 < (l.map (·.f0)).length := by rw [List.length_map]; exact H016.out.1
        have hal := align_common hlen0 (by rw [List.length_map]; exact H016.out.2) hids
        have hci := common_ids hlen0 hids
        have hcm : ∀ y ∈ l, ∀ x ∈ common (l.map (·.f0)), x ∈ y.f0 := fun y hy x hx => (common_mem hlen0 x).1 hx _ (List.mem_map.2 ⟨y, hy, rfl⟩)
        obtain ⟨xs, hxs⟩ : ∃ xs, xs = common (l.map (·.f0)) := ⟨_, rfl⟩
        rw [← hxs] at hal hci hcm
        have HAL := Aside0.mk hal
        have HCI := Aside0.mk hci
        have HCM := Aside0.mk hcm
        have HXL := Aside0.mk (Tq.ids_facts hci).1
        clear hids hlen0 hal hci hcm hxs
        have HIZ := Aside0.mk (show ∀ y ∈ l.map (·.f0), y.length ≤ 140737488351232 from fun y hy => by
          obtain ⟨x, hx, rfl⟩ := List.mem_map.1 hy
          exact (HZ.out x hx).1)
        have HILN := Aside0.mk (show (l.map (·.f0)).length ≤ 140737488351232 by rw [List.length_map]; omega)
        obtain ⟨idl, hidl⟩ : ∃ z, z = l.map (·.f0) := ⟨_, rfl⟩
        rw [← hidl] at HI2 HAL HIZ HILN
        clear hidl
        obtain ⟨A4, c4, hv4, hl4, hr4⟩ := Kd.R_reads HI2.out
        subst hv4
        have HR4 := Aside0.mk (kI_read HB.out hr4)
        clear hr4
        go_wp2_with fail
        refine (Al.align_calls A4 c4 idl _ HR4.out HILN.out HIZ.out xs 0 HAL.out).mono ?_
        rintro e w0 ⟨v7, rfl, hr7, hb0⟩
        obtain ⟨A7, c7, rfl, hc7, hC7⟩ := Kd.R_reads hr7
        have HB0 := Aside0.mk (HB.out.trans (hb0.mono HB.out.size))
        have HC7 := Aside0.mk hC7
        have HC7L := Aside0.mk hc7
        clear hr7 hb0 hC7 hc7 HR4 HI2 HB
        go_wp2_with fail
        go_loopg [9, 10] l.length (fun g v9 v10 wx => ∃ i : Nat, i + g = l.length ∧ v10 = .int .i64 (i : Int) ∧ Aside0 (k43.R 43 wx w0.heap.size (fun _ => True) v9 ((l.take i).map (taken xs))) ∧ Aside0 (Below w0.heap.size w0 wx))
        case atStart => exact ⟨0, by omega, rfl, ⟨Kd.R_nil _ _ _ _ _⟩, ⟨Below.refl _ _⟩⟩
        case round =>
          obtain ⟨i, hi, rfl, HI, HB⟩ := hrel
          cases gk with
          | succ g =>
            have hlt : (i : Int) < (l.length : Int) := by omega
            obtain ⟨ad, A0, c0, A1, c1, A2, c2, hA, hx0, hx1, hx2, l0, g0, l1, g1, l2, g2⟩ := at_T43 (Kd.C_below HR.out (HB0.out.trans (HB.out.mono HB0.out.size))) (i : Int) (by omega) hlt
            subst hA
            rw [Int.toNat_natCast] at hx0 hx1 hx2
            have hd : l.take (i + 1) = l.take i ++ [rd_T43 l (i : Int)] := by
              rw [List.take_succ_eq_append_getElem (by omega), rdT_at l i (by omega)]
            have hmem := rdT_mem l i (by omega)
            obtain ⟨z0, z1, z2, z3⟩ := HZ.out _ hmem
            have HT43 := Aside0.mk (show IsTb wr A0 A1 A2 c0 c1 c2 (rd_T43 l (i : Int)).f0 (rd_T43 l (i : Int)).f1 (rd_T43 l (i : Int)).f2 from ⟨l0, l1, l2, g0, g1, g2, z0, z1, z2, z3⟩)
            have htk := take_of (HT2.out _ hmem) HCI.out (HCM.out _ hmem)
            have hown := take_own (HT2.out _ hmem)
            have hil : (l.take i).length ≤ 16 := by have := H016.out; rw [List.length_take]; omega
            obtain ⟨x, hx⟩ : ∃ x, x = rd_T43 l (i : Int) := ⟨_, rfl⟩
            rw [← hx] at hx0 hx1 hx2 hd hmem HT43 htk hown
            obtain ⟨rows, hrows⟩ : ∃ r, r = x.f2.map (colT x.f0 xs) := ⟨_, rfl⟩
            rw [← hrows] at htk
            have HROWS := Aside0.mk hrows
            have HD := Aside0.mk hd
            have HTK := Aside0.mk htk
            have HOWN := Aside0.mk hown
            have HIL := Aside0.mk hil
            have HX := Aside0.mk (And.intro hx0 (And.intro hx1 hx2))
            clear hx hd hmem z0 z1 z2 z3 l0 g0 l1 g1 l2 g2 htk hown hil hrows
            go_wp2_with fail
            refine (Tm.take_calls A0 A1 A2 c0 c1 c2 x.f0 x.f1 x.f2 A7 c7 xs _ HT43.out (Kd.C_below HC7.out HB.out) (by have := HXL.out; omega)).mono ?_
            rw [HTK.out]
            rintro e w3 ⟨p, rfl, hp, hb3⟩
            obtain ⟨W4, hW4⟩ : ∃ W, W = w3.alloc (.cells #[.slice p.A0 xs.length p.c0, .slice p.A1 x.f1.length p.c1, .slice p.A2 rows.length p.c2] 43) := ⟨_, rfl⟩
            have HB4 := Aside0.mk (show Below wr.heap.size wr W4 by rw [hW4]; exact below_alloc hb3 _)
            have HB4d := Aside0.mk (below_drew HB4.out)
            have K4 := Aside0.mk (show W4.heap[w3.heap.size]? = some (.cells #[.slice p.A0 xs.length p.c0, .slice p.A1 x.f1.length p.c1, .slice p.A2 rows.length p.c2] 43 (0, 0)) by rw [hW4]; exact blk_new w3 _)
            have HP4 := Aside0.mk (show (Kd.int .i64).R 3 W4 wr.heap.size (fun _ => True) (.slice p.A0 xs.length p.c0) xs ∧ (Kd.int .i64).R 3 W4 wr.heap.size (fun _ => True) (.slice p.A1 x.f1.length p.c1) x.f1 ∧ (Kd.slice 3 (Kd.int .i64)).R 31 W4 wr.heap.size (fun _ => True) (.slice p.A2 rows.length p.c2) rows by
              rw [hW4]; exact ⟨Kd.R_alloc hp.2.1 _, Kd.R_alloc hp.2.2.1 _, Kd.R_alloc hp.2.2.2 _⟩)
            clear hp hb3 hx0 hx1 hx2
            go_wp2_with fail
            rw [← hW4]
            clear hW4
            go_upto_region 20 with fail
            go_cut [13, 14] from 62 to 109 (fun v13 v14 wx => ∃ (g6 : Nat) (q : At), v13 = .pointer (some ⟨g6, 0, none⟩) ∧ v14 = .int .i64 0 ∧ Aside0 (Below wr.heap.size wr wx) ∧ Aside0 (wx.heap[g6]? = some (.cells #[.slice q.A0 x.f0.length q.c0, .slice q.A1 x.f1.length q.c1, .slice q.A2 x.f2.length q.c2] 43 (0, 0))) ∧ Aside0 (wx.heap[w3.heap.size]? = some (.cells #[.slice p.A0 xs.length p.c0, .slice p.A1 x.f1.length p.c1, .slice p.A2 rows.length p.c2] 43 (0, 0))) ∧ Aside0 ((Kd.int .i64).R 3 wx wr.heap.size (fun _ => True) (.slice p.A0 xs.length p.c0) xs ∧ (Kd.int .i64).R 3 wx wr.heap.size (fun _ => True) (.slice p.A1 x.f1.length p.c1) x.f1 ∧ (Kd.slice 3 (Kd.int .i64)).R 31 wx wr.heap.size (fun _ => True) (.slice p.A2 rows.length p.c2) rows) ∧ Aside0 (IsTb wx q.A0 q.A1 q.A2 q.c0 q.c1 q.c2 x.f0 x.f1 x.f2))
            case first =>
              refine start_ (n := 16) (S := fun w' => w'.cell? (ad.add (i * 3)) = some (.slice A0 x.f0.length c0) ∧ w'.cell? ⟨(ad.add (i * 3)).block, (ad.add (i * 3)).off + 1, none⟩ = some (.slice A1 x.f1.length c1) ∧ w'.cell? ⟨(ad.add (i * 3)).block, (ad.add (i * 3)).off + 2, none⟩ = some (.slice A2 x.f2.length c2)) (ds := []) #[false, false, false, false, false, false, false, false, false, false, false, false, false, false, false, false] (by kernel_rfl) rfl rfl (⟨cell_low HX.out.1 (HB4d.out), cell_low HX.out.2.1 (HB4d.out), cell_low HX.out.2.2 (HB4d.out)⟩) (fun hHeld => ?_)
              have HBc := HB4d
              have KPc := Aside0.mk (blk_drew K4.out)
              have HPc := Aside0.mk (And.intro (Kd.R_drew HP4.out.1) (And.intro (Kd.R_drew HP4.out.2.1) (Kd.R_drew HP4.out.2.2)))
              generalize W4.drew = u at HBc KPc HPc hHeld ⊢
              refine pure_ (i := 0) (N := some 78) (v := ?_) (a' := ?_) #[true, false, false, false, false, false, false, false, false, false, false, false, false, false, false, false] rfl rfl (by kernel_rfl) (fun _ _ _ h => h) (Or.inl ⟨by rfl, ?_⟩) ?_ ?_
              rotate_left
              · intro w'
                go_simp
                try with_reducible rfl
              rotate_left
              · simp only [Act.put, List.setIfInBounds_toArray, List.set_cons_zero, List.set_cons_succ, i64_w, i32_w]
                rfl
              refine pure_ (i := 1) (N := some 79) (v := ?_) (a' := ?_) #[true, true, false, false, false, false, false, false, false, false, false, false, false, false, false, false] rfl rfl (by kernel_rfl) (fun _ _ _ h => h) (Or.inl ⟨by rfl, ?_⟩) ?_ ?_
              rotate_left
              · intro w'
                go_simp
                try with_reducible rfl
              rotate_left
              · simp only [Act.put, List.setIfInBounds_toArray, List.set_cons_zero, List.set_cons_succ, i64_w, i32_w]
                rfl
              refine pure_ (i := 2) (N := some 80) (v := ?_) (a' := ?_) #[true, true, true, false, false, false, false, false, false, false, false, false, false, false, false, false] rfl rfl (by kernel_rfl) (fun _ _ _ h => h) (Or.inl ⟨by rfl, ?_⟩) ?_ ?_
              rotate_left
              · intro w'
                go_simp
                try with_reducible rfl
              rotate_left
              · simp only [Act.put, List.setIfInBounds_toArray, List.set_cons_zero, List.set_cons_succ, i64_w, i32_w]
                rfl
              refine take_ (i := 3) (N := some 81) (v := ?_) (a' := ?_) #[true, true, true, true, false, false, false, false, false, false, false, false, false, false, false, false] rfl rfl (by kernel_rfl) (fun _ _ _ h => h) (Or.inl ⟨by rfl, ?_⟩) hHeld ?_ ?_
              rotate_left
              · intro w' hSw
                go_simp
                try with_reducible rfl
              rotate_left
              · simp only [Act.put, List.setIfInBounds_toArray, List.set_cons_zero, List.set_cons_succ, i64_w, i32_w]
                rfl
              refine pure_ (i := 4) (N := some 82) (v := ?_) (a' := ?_) #[true, true, true, true, true, false, false, false, false, false, false, false, false, false, false, false] rfl rfl (by kernel_rfl) (fun _ _ _ h => h) (Or.inl ⟨by rfl, ?_⟩) ?_ ?_
              rotate_left
              · intro w'
                go_simp
                try with_reducible rfl
              rotate_left
              · simp only [Act.put, List.setIfInBounds_toArray, List.set_cons_zero, List.set_cons_succ, i64_w, i32_w]
                rfl
              refine pure_ (i := 5) (N := some 83) (v := ?_) (a' := ?_) #[true, true, true, true, true, true, false, false, false, false, false, false, false, false, false, false] rfl rfl (by kernel_rfl) (fun _ _ _ h => h) (Or.inl ⟨by rfl, ?_⟩) ?_ ?_
              rotate_left
              · intro w'
                go_simp
                try with_reducible rfl
              rotate_left
              · simp only [Act.put, List.setIfInBounds_toArray, List.set_cons_zero, List.set_cons_succ, i64_w, i32_w]
                rfl
              refine pure_ (i := 6) (N := some 84) (v := ?_) (a' := ?_) #[true, true, true, true, true, true, true, false, false, false, false, false, false, false, false, false] rfl rfl (by kernel_rfl) (fun _ _ _ h => h) (Or.inl ⟨by rfl, ?_⟩) ?_ ?_
              rotate_left
              · intro w'
                go_simp
                try with_reducible rfl
              rotate_left
              · simp only [Act.put, List.setIfInBounds_toArray, List.set_cons_zero, List.set_cons_succ, i64_w, i32_w]
                rfl
              refine pure_ (i := 7) (N := some 85) (v := ?_) (a' := ?_) #[true, true, true, true, true, true, true, true, false, false, false, false, false, false, false, false] rfl rfl (by kernel_rfl) (fun _ _ _ h => h) (Or.inl ⟨by rfl, ?_⟩) ?_ ?_
              rotate_left
              · intro w'
                go_simp
                try with_reducible rfl
              rotate_left
              · simp only [Act.put, List.setIfInBounds_toArray, List.set_cons_zero, List.set_cons_succ, i64_w, i32_w]
                rfl
              refine take_ (i := 8) (N := some 86) (v := ?_) (a' := ?_) #[true, true, true, true, true, true, true, true, true, false, false, false, false, false, false, false] rfl rfl (by kernel_rfl) (fun _ _ _ h => h) (Or.inl ⟨by rfl, ?_⟩) hHeld ?_ ?_
              rotate_left
              · intro w' hSw
                go_simp
                try with_reducible rfl
              rotate_left
              · simp only [Act.put, List.setIfInBounds_toArray, List.set_cons_zero, List.set_cons_succ, i64_w, i32_w]
                rfl
              refine two_ (i := 9) (j := 13) (Ni := some 87) (Nj := some 13) #[true, true, true, true, true, true, true, true, true, true, false, false, false, false, false, false] #[true, true, true, true, true, true, true, true, true, false, false, false, false, true, false, false] rfl rfl rfl rfl (by kernel_rfl) (by decide) (by decide) (fun K hK => ?_) (fun K hK => ?_)
              · skip
                refine goes_ Try.func34 (by kernel_rfl) rfl #[.agg (tbV A0 A1 A2 c0 c1 c2 x.f0 x.f1 x.f2), .slice A0 x.f0.length c0] (by rfl) rfl rfl (by first | rfl | (simp [Act.eval, Operand.eval]; done) | kernel_rfl) ?_
                refine (Tm.take_calls A0 A1 A2 c0 c1 c2 x.f0 x.f1 x.f2 A0 c0 x.f0 _ (HT43.out.below HBc.out) (HT43.out.below HBc.out).r0 HT43.out.z0).mono ?_
                rw [HOWN.out]
                rintro e u5 ⟨q, rfl, hq, hb⟩
                refine ⟨_, rfl, ?_⟩
                have HQn := Aside0.mk (And.intro (Kd.R_lower hq.2.1 HBc.out.size) (And.intro (Kd.R_lower hq.2.2.1 HBc.out.size) (Kd.R_lower hq.2.2.2 HBc.out.size)))
                have HPn := Aside0.mk (And.intro (Kd.R_below HPc.out.1 hb) (And.intro (Kd.R_below HPc.out.2.1 hb) (Kd.R_below HPc.out.2.2 hb)))
                have KPn := Aside0.mk (blk_below KPc.out hb)
                have HBn := Aside0.mk (HBc.out.trans (hb.mono HBc.out.size))
                clear hb hq HPc KPc HBc
                have HPc := HPn
                have KPc := KPn
                have HBc := HBn
                have HQc := HQn
                clear HPn KPn HBn HQn
                refine hK.out _ _ (⟨cell_low HX.out.1 (HBc.out), cell_low HX.out.2.1 (HBc.out), cell_low HX.out.2.2 (HBc.out)⟩) (fun hHeld => ?_)
                clear hK K
                refine norm_ (a' := ?_) ?_ ?_
                rotate_left
                · show Act.put _ (some 87) _ = _
                  simp only [Act.put, List.setIfInBounds_toArray, List.set_cons_zero, List.set_cons_succ, i64_w, i32_w]
                  rfl
                refine pure_ (i := 10) (N := some 77) (v := ?_) (a' := ?_) #[true, true, true, true, true, true, true, true, true, true, true, false, false, false, false, false] rfl rfl (by kernel_rfl) (fun _ _ _ h => h) (Or.inl ⟨by rfl, ?_⟩) ?_ ?_
                rotate_left
                · intro w'
                  go_simp
                  try with_reducible rfl
                rotate_left
                · simp only [Act.put, List.setIfInBounds_toArray, List.set_cons_zero, List.set_cons_succ, i64_w, i32_w]
                  rfl
                refine pure_ (i := 11) (N := some 88) (v := ?_) (a' := ?_) #[true, true, true, true, true, true, true, true, true, true, true, true, false, false, false, false] rfl rfl (by kernel_rfl) (fun _ _ _ h => h) (Or.inl ⟨by rfl, ?_⟩) ?_ ?_
                rotate_left
                · intro w'
                  go_simp
                  try with_reducible rfl
                rotate_left
                · simp only [Act.put, List.setIfInBounds_toArray, List.set_cons_zero, List.set_cons_succ, i64_w, i32_w]
                  rfl
                refine pure_ (i := 12) (N := some 89) (v := ?_) (a' := ?_) #[true, true, true, true, true, true, true, true, true, true, true, true, true, false, false, false] rfl rfl (by kernel_rfl) (fun _ _ _ h => h) (Or.inl ⟨by rfl, ?_⟩) ?_ ?_
                rotate_left
                · intro w'
                  go_simp
                  try with_reducible rfl
                rotate_left
                · simp only [Act.put, List.setIfInBounds_toArray, List.set_cons_zero, List.set_cons_succ, i64_w, i32_w]
                  rfl
                refine one_ (i := 13) (N := some 13) #[true, true, true, true, true, true, true, true, true, true, true, true, true, true, false, false] rfl rfl (by kernel_rfl) (by decide) (fun K hK => ?_)
                refine box_step (by rfl) (N := 13) rfl (cs := #[.slice none 0 0, .slice none 0 0, .slice none 0 0]) (t := 43) (by go_simp) ?_
                intro g hg ub hkg hb
                have HGn := Aside0.mk (show w3.heap.size < g ∧ wr.heap.size ≤ g by rw [hg]; exact ⟨blk_lt KPc.out, HBc.out.size⟩)
                have KGn := Aside0.mk hkg
                clear hg
                have HPn := Aside0.mk (And.intro (Kd.R_below HPc.out.1 hb) (And.intro (Kd.R_below HPc.out.2.1 hb) (Kd.R_below HPc.out.2.2 hb)))
                have KPn := Aside0.mk (blk_below KPc.out hb)
                have HQn := Aside0.mk (And.intro (Kd.R_below HQc.out.1 hb) (And.intro (Kd.R_below HQc.out.2.1 hb) (Kd.R_below HQc.out.2.2 hb)))
                have HBn := Aside0.mk (HBc.out.trans (hb.mono HBc.out.size))
                clear hb hkg HPc KPc HBc HQc
                have HPc := HPn
                have KPc := KPn
                have HBc := HBn
                have HQc := HQn
                have KGc := KGn
                have HGc := HGn
                clear HPn KPn HBn HQn KGn HGn
                refine hK.out _ _ (⟨cell_low HX.out.1 (HBc.out), cell_low HX.out.2.1 (HBc.out), cell_low HX.out.2.2 (HBc.out)⟩) (fun hHeld => ?_)
                clear hK K
                refine norm_ (a' := ?_) ?_ ?_
                rotate_left
                · show Act.put _ (some 13) _ = _
                  simp only [Act.put, List.setIfInBounds_toArray, List.set_cons_zero, List.set_cons_succ, i64_w, i32_w]
                  rfl
                obtain ⟨b0, b1, b2⟩ := three_cells KGc.out
                obtain ⟨f0, f1, f2⟩ := Tm.three_frozen KGc.out
                refine one_ (i := 14) (N := none) #[true, true, true, true, true, true, true, true, true, true, true, true, true, true, true, false] rfl rfl (by kernel_rfl) (by decide) (fun K hK => ?_)
                refine skip_ (w1 := ((ub.setCell ⟨g, 0, none⟩ (.slice q.A0 x.f0.length q.c0)).setCell ⟨g, 1, none⟩ (.slice q.A1 x.f1.length q.c1)).setCell ⟨g, 2, none⟩ (.slice q.A2 x.f2.length q.c2)) (by rfl) rfl (by go_simp; try rfl) ?_
                obtain ⟨p1, p2, p3⟩ := Tm.put3 (.slice q.A0 x.f0.length q.c0) (.slice q.A1 x.f1.length q.c1) (.slice q.A2 x.f2.length q.c2) KGc.out
                have HB9 := Aside0.mk (p3 _ HBc.out HGc.out.2)
                have HP9 := Aside0.mk (And.intro (R_put3 HPc.out.1 KGc.out (by decide) p2) (And.intro (R_put3 HPc.out.2.1 KGc.out (by decide) p2) (R_put3 HPc.out.2.2 KGc.out (by decide) p2)))
                have HQ9 := Aside0.mk (tb_of q (R_put3 HQc.out.1 KGc.out (by decide) p2) (R_put3 HQc.out.2.1 KGc.out (by decide) p2) (R_put3 HQc.out.2.2 KGc.out (by decide) p2) HT43.out)
                have KP9 := Aside0.mk ((p2 w3.heap.size (by have := HGc.out.1; omega)).trans KPc.out)
                have KG9 := Aside0.mk p1
                clear b0 b1 b2 f0 f1 f2 p1 p2 p3
                refine hK.out _ _ (⟨cell_low HX.out.1 (HB9.out), cell_low HX.out.2.1 (HB9.out), cell_low HX.out.2.2 (HB9.out)⟩) (fun hHeld => ?_)
                clear hK K
                refine pure_ (i := 15) (N := some 14) (v := ?_) (a' := ?_) #[true, true, true, true, true, true, true, true, true, true, true, true, true, true, true, true] rfl rfl (by kernel_rfl) (fun _ _ _ h => h) (Or.inl ⟨by rfl, ?_⟩) ?_ ?_
                rotate_left
                · intro w'
                  go_simp
                  try with_reducible rfl
                rotate_left
                · simp only [Act.put, List.setIfInBounds_toArray, List.set_cons_zero, List.set_cons_succ, i64_w, i32_w]
                  rfl
                refine done_ (by kernel_rfl) ?_
                clear hHeld
                go_wp2_with fail
                go_meet
                case rel => exact ⟨g, q, rfl, rfl, HB9, KG9, KP9, HP9, HQ9⟩
              · skip
                refine box_step (by rfl) (N := 13) rfl (cs := #[.slice none 0 0, .slice none 0 0, .slice none 0 0]) (t := 43) (by go_simp) ?_
                intro g hg ub hkg hb
                have HGn := Aside0.mk (show w3.heap.size < g ∧ wr.heap.size ≤ g by rw [hg]; exact ⟨blk_lt KPc.out, HBc.out.size⟩)
                have KGn := Aside0.mk hkg
                clear hg
                have HPn := Aside0.mk (And.intro (Kd.R_below HPc.out.1 hb) (And.intro (Kd.R_below HPc.out.2.1 hb) (Kd.R_below HPc.out.2.2 hb)))
                have KPn := Aside0.mk (blk_below KPc.out hb)
                have HBn := Aside0.mk (HBc.out.trans (hb.mono HBc.out.size))
                clear hb hkg HPc KPc HBc
                have HPc := HPn
                have KPc := KPn
                have HBc := HBn
                have KGc := KGn
                have HGc := HGn
                clear HPn KPn HBn KGn HGn
                refine hK.out _ _ (⟨cell_low HX.out.1 (HBc.out), cell_low HX.out.2.1 (HBc.out), cell_low HX.out.2.2 (HBc.out)⟩) (fun hHeld => ?_)
                clear hK K
                refine norm_ (a' := ?_) ?_ ?_
                rotate_left
                · show Act.put _ (some 13) _ = _
                  simp only [Act.put, List.setIfInBounds_toArray, List.set_cons_zero, List.set_cons_succ, i64_w, i32_w]
                  rfl
                refine one_ (i := 9) (N := some 87) #[true, true, true, true, true, true, true, true, true, true, false, false, false, true, false, false] rfl rfl (by kernel_rfl) (by decide) (fun K hK => ?_)
                refine goes_ Try.func34 (by kernel_rfl) rfl #[.agg (tbV A0 A1 A2 c0 c1 c2 x.f0 x.f1 x.f2), .slice A0 x.f0.length c0] (by rfl) rfl rfl (by first | rfl | (simp [Act.eval, Operand.eval]; done) | kernel_rfl) ?_
                refine (Tm.take_calls A0 A1 A2 c0 c1 c2 x.f0 x.f1 x.f2 A0 c0 x.f0 _ (HT43.out.below HBc.out) (HT43.out.below HBc.out).r0 HT43.out.z0).mono ?_
                rw [HOWN.out]
                rintro e u5 ⟨q, rfl, hq, hb⟩
                refine ⟨_, rfl, ?_⟩
                have HQn := Aside0.mk (And.intro (Kd.R_lower hq.2.1 HBc.out.size) (And.intro (Kd.R_lower hq.2.2.1 HBc.out.size) (Kd.R_lower hq.2.2.2 HBc.out.size)))
                have HPn := Aside0.mk (And.intro (Kd.R_below HPc.out.1 hb) (And.intro (Kd.R_below HPc.out.2.1 hb) (Kd.R_below HPc.out.2.2 hb)))
                have KPn := Aside0.mk (blk_below KPc.out hb)
                have KGn := Aside0.mk (blk_below KGc.out hb)
                have HBn := Aside0.mk (HBc.out.trans (hb.mono HBc.out.size))
                clear hb hq HPc KPc HBc KGc
                have HPc := HPn
                have KPc := KPn
                have HBc := HBn
                have KGc := KGn
                have HQc := HQn
                clear HPn KPn HBn KGn HQn
                refine hK.out _ _ (⟨cell_low HX.out.1 (HBc.out), cell_low HX.out.2.1 (HBc.out), cell_low HX.out.2.2 (HBc.out)⟩) (fun hHeld => ?_)
                clear hK K
                refine norm_ (a' := ?_) ?_ ?_
                rotate_left
                · show Act.put _ (some 87) _ = _
                  simp only [Act.put, List.setIfInBounds_toArray, List.set_cons_zero, List.set_cons_succ, i64_w, i32_w]
                  rfl
                refine pure_ (i := 10) (N := some 77) (v := ?_) (a' := ?_) #[true, true, true, true, true, true, true, true, true, true, true, false, false, true, false, false] rfl rfl (by kernel_rfl) (fun _ _ _ h => h) (Or.inl ⟨by rfl, ?_⟩) ?_ ?_
                rotate_left
                · intro w'
                  go_simp
                  try with_reducible rfl
                rotate_left
                · simp only [Act.put, List.setIfInBounds_toArray, List.set_cons_zero, List.set_cons_succ, i64_w, i32_w]
                  rfl
                refine pure_ (i := 11) (N := some 88) (v := ?_) (a' := ?_) #[true, true, true, true, true, true, true, true, true, true, true, true, false, true, false, false] rfl rfl (by kernel_rfl) (fun _ _ _ h => h) (Or.inl ⟨by rfl, ?_⟩) ?_ ?_
                rotate_left
                · intro w'
                  go_simp
                  try with_reducible rfl
                rotate_left
                · simp only [Act.put, List.setIfInBounds_toArray, List.set_cons_zero, List.set_cons_succ, i64_w, i32_w]
                  rfl
                refine pure_ (i := 12) (N := some 89) (v := ?_) (a' := ?_) #[true, true, true, true, true, true, true, true, true, true, true, true, true, true, false, false] rfl rfl (by kernel_rfl) (fun _ _ _ h => h) (Or.inl ⟨by rfl, ?_⟩) ?_ ?_
                rotate_left
                · intro w'
                  go_simp
                  try with_reducible rfl
                rotate_left
                · simp only [Act.put, List.setIfInBounds_toArray, List.set_cons_zero, List.set_cons_succ, i64_w, i32_w]
                  rfl
                obtain ⟨b0, b1, b2⟩ := three_cells KGc.out
                obtain ⟨f0, f1, f2⟩ := Tm.three_frozen KGc.out
                refine one_ (i := 14) (N := none) #[true, true, true, true, true, true, true, true, true, true, true, true, true, true, true, false] rfl rfl (by kernel_rfl) (by decide) (fun K hK => ?_)
                refine skip_ (w1 := ((u5.setCell ⟨g, 0, none⟩ (.slice q.A0 x.f0.length q.c0)).setCell ⟨g, 1, none⟩ (.slice q.A1 x.f1.length q.c1)).setCell ⟨g, 2, none⟩ (.slice q.A2 x.f2.length q.c2)) (by rfl) rfl (by go_simp; try rfl) ?_
                obtain ⟨p1, p2, p3⟩ := Tm.put3 (.slice q.A0 x.f0.length q.c0) (.slice q.A1 x.f1.length q.c1) (.slice q.A2 x.f2.length q.c2) KGc.out
                have HB9 := Aside0.mk (p3 _ HBc.out HGc.out.2)
                have HP9 := Aside0.mk (And.intro (R_put3 HPc.out.1 KGc.out (by decide) p2) (And.intro (R_put3 HPc.out.2.1 KGc.out (by decide) p2) (R_put3 HPc.out.2.2 KGc.out (by decide) p2)))
                have HQ9 := Aside0.mk (tb_of q (R_put3 HQc.out.1 KGc.out (by decide) p2) (R_put3 HQc.out.2.1 KGc.out (by decide) p2) (R_put3 HQc.out.2.2 KGc.out (by decide) p2) HT43.out)
                have KP9 := Aside0.mk ((p2 w3.heap.size (by have := HGc.out.1; omega)).trans KPc.out)
                have KG9 := Aside0.mk p1
                clear b0 b1 b2 f0 f1 f2 p1 p2 p3
                refine hK.out _ _ (⟨cell_low HX.out.1 (HB9.out), cell_low HX.out.2.1 (HB9.out), cell_low HX.out.2.2 (HB9.out)⟩) (fun hHeld => ?_)
                clear hK K
                refine pure_ (i := 15) (N := some 14) (v := ?_) (a' := ?_) #[true, true, true, true, true, true, true, true, true, true, true, true, true, true, true, true] rfl rfl (by kernel_rfl) (fun _ _ _ h => h) (Or.inl ⟨by rfl, ?_⟩) ?_ ?_
                rotate_left
                · intro w'
                  go_simp
                  try with_reducible rfl
                rotate_left
                · simp only [Act.put, List.setIfInBounds_toArray, List.set_cons_zero, List.set_cons_succ, i64_w, i32_w]
                  rfl
                refine done_ (by kernel_rfl) ?_
                clear hHeld
                go_wp2_with fail
                go_meet
                case rel => exact ⟨g, q, rfl, rfl, HB9, KG9, KP9, HP9, HQ9⟩
            case rest =>
              obtain ⟨g6, q, rfl, rfl, HB6, KG6, K6, HP6, HQ6⟩ := hcut
              obtain ⟨b0, b1, b2⟩ := three_cells KG6.out
              have B0 := Aside0.mk b0
              have B1 := Aside0.mk b1
              have B2 := Aside0.mk b2
              go_upto_region 21 with fail
              refine start_ (n := 7) (S := fun w' => (w'.cell? (ad.add (i * 3)) = some (.slice A0 x.f0.length c0) ∧ w'.cell? ⟨(ad.add (i * 3)).block, (ad.add (i * 3)).off + 1, none⟩ = some (.slice A1 x.f1.length c1) ∧ w'.cell? ⟨(ad.add (i * 3)).block, (ad.add (i * 3)).off + 2, none⟩ = some (.slice A2 x.f2.length c2)) ∧ w'.cell? ⟨g6, 0, none⟩ = some (.slice q.A0 x.f0.length q.c0) ∧ w'.cell? ⟨g6, 1, none⟩ = some (.slice q.A1 x.f1.length q.c1) ∧ w'.cell? ⟨g6, 2, none⟩ = some (.slice q.A2 x.f2.length q.c2)) (ds := []) #[false, false, false, false, false, false, false] (by kernel_rfl) rfl rfl ⟨⟨cell_low HX.out.1 (below_drew HB6.out), cell_low HX.out.2.1 (below_drew HB6.out), cell_low HX.out.2.2 (below_drew HB6.out)⟩, cell_low b0 (below_drew (Below.refl _ _)), cell_low b1 (below_drew (Below.refl _ _)), cell_low b2 (below_drew (Below.refl _ _))⟩ (fun hHeld => ?_)
              refine take_ (i := 0) (N := some 90) (v := ?_) (a' := ?_) #[true, false, false, false, false, false, false] rfl rfl (by kernel_rfl) (fun _ _ _ h => h) (Or.inl ⟨by rfl, ?_⟩) hHeld ?_ ?_
              rotate_left
              · intro w' hSw
                go_simp
                try with_reducible rfl
              rotate_left
              · simp only [Act.put, List.setIfInBounds_toArray, List.set_cons_zero, List.set_cons_succ, i64_w, i32_w]
                rfl
              refine pure_ (i := 1) (N := some 91) (v := ?_) (a' := ?_) #[true, true, false, false, false, false, false] rfl rfl (by kernel_rfl) (fun _ _ _ h => h) (Or.inl ⟨by rfl, ?_⟩) ?_ ?_
              rotate_left
              · intro w'
                go_simp
                try with_reducible rfl
              rotate_left
              · simp only [Act.put, List.setIfInBounds_toArray, List.set_cons_zero, List.set_cons_succ, i64_w, i32_w]
                rfl
              refine pure_ (i := 2) (N := some 92) (v := ?_) (a' := ?_) #[true, true, true, false, false, false, false] rfl rfl (by kernel_rfl) (fun _ _ _ h => h) (Or.inl ⟨by rfl, ?_⟩) ?_ ?_
              rotate_left
              · intro w'
                go_simp
                try with_reducible rfl
              rotate_left
              · simp only [Act.put, List.setIfInBounds_toArray, List.set_cons_zero, List.set_cons_succ, i64_w, i32_w]
                rfl
              refine pure_ (i := 3) (N := some 93) (v := ?_) (a' := ?_) #[true, true, true, true, false, false, false] rfl rfl (by kernel_rfl) (fun _ _ _ h => h) (Or.inl ⟨by rfl, ?_⟩) ?_ ?_
              rotate_left
              · intro w'
                go_simp
                try with_reducible rfl
              rotate_left
              · simp only [Act.put, List.setIfInBounds_toArray, List.set_cons_zero, List.set_cons_succ, i64_w, i32_w]
                rfl
              refine take_ (i := 4) (N := some 94) (v := ?_) (a' := ?_) #[true, true, true, true, true, false, false] rfl rfl (by kernel_rfl) (fun _ _ _ h => h) (Or.inl ⟨by rfl, ?_⟩) hHeld ?_ ?_
              rotate_left
              · intro w' hSw
                go_simp
                try with_reducible rfl
              rotate_left
              · simp only [Act.put, List.setIfInBounds_toArray, List.set_cons_zero, List.set_cons_succ, i64_w, i32_w]
                rfl
              refine one_ (i := 5) (N := some 95) #[true, true, true, true, true, true, false] rfl rfl (by kernel_rfl) (by decide) (fun K hK => ?_)
              refine goes_ Try.func36 (by kernel_rfl) rfl #[.agg (tbV q.A0 q.A1 q.A2 q.c0 q.c1 q.c2 x.f0 x.f1 x.f2), .agg (tbV A0 A1 A2 c0 c1 c2 x.f0 x.f1 x.f2)] (by rfl) rfl rfl (by first | rfl | (simp [Act.eval, Operand.eval]; done) | kernel_rfl) ?_
              refine (Sm.ref_same_calls _ _ _ _ _ _ _ _ _ _ _ _ x.f0 x.f1 x.f0 x.f1 x.f2 x.f2 _ (HQ6.out.below (below_drew (Below.refl _ _))) (HT43.out.below (below_drew HB6.out))).mono ?_
              rintro e w7 ⟨rfl, hb7⟩
              rw [decide_eq_true ⟨rfl, rfl, rfl⟩]
              refine ⟨_, rfl, ?_⟩
              have HB67 := Aside0.mk (show Below wc.heap.size wc w7 from (below_drew (Below.refl _ _)).trans (hb7.mono (Nat.le_of_eq rfl)))
              have HB7 := Aside0.mk (HB6.out.trans (HB67.out.mono HB6.out.size))
              clear hb7
              refine hK.out _ _ (⟨⟨cell_low HX.out.1 (HB7.out), cell_low HX.out.2.1 (HB7.out), cell_low HX.out.2.2 (HB7.out)⟩, cell_low B0.out HB67.out, cell_low B1.out HB67.out, cell_low B2.out HB67.out⟩) (fun hHeld => ?_)
              clear hK K
              refine norm_ (a' := ?_) ?_ ?_
              rotate_left
              · show Act.put _ (some 95) _ = _
                simp only [Act.put, List.setIfInBounds_toArray, List.set_cons_zero, List.set_cons_succ, i64_w, i32_w]
                rfl
              refine pure_ (i := 6) (N := some 15) (v := ?_) (a' := ?_) #[true, true, true, true, true, true, true] rfl rfl (by kernel_rfl) (fun _ _ _ h => h) (Or.inl ⟨by rfl, ?_⟩) ?_ ?_
              rotate_left
              · intro w'
                go_simp
                try with_reducible rfl
              rotate_left
              · simp only [Act.put, List.setIfInBounds_toArray, List.set_cons_zero, List.set_cons_succ, i64_w, i32_w]
                rfl
              refine done_ (by kernel_rfl) ?_
              have K7 := Aside0.mk (blk_below K6.out HB67.out)
              obtain ⟨d0, d1, d2⟩ := three_cells K7.out
              have HP7 := Aside0.mk (And.intro (Kd.R_below HP6.out.1 HB67.out) (And.intro (Kd.R_below HP6.out.2.1 HB67.out) (Kd.R_below HP6.out.2.2 HB67.out)))
              have HPM := Aside0.mk (show k43.M w7 w0.heap.size (fun k => wr.heap.size ≤ k) (taken xs x) [.slice p.A0 xs.length p.c0, .slice p.A1 x.f1.length p.c1, .slice p.A2 rows.length p.c2] by
                have e : taken xs x = ⟨xs, x.f1, rows⟩ := by rw [HROWS.out]; rfl
                rw [e]
                exact k43_mkM w7 w0.heap.size _ ⟨xs, x.f1, rows⟩ (mvR HP7.out.1 HB.out.size) (mvR HP7.out.2.1 HB.out.size) (mvR HP7.out.2.2 HB.out.size))
              have HOK := Aside0.mk (show ∀ k, wr.heap.size ≤ k → True ∧ some k ≠ u9.ownBlock from fun k hk => ⟨trivial, fun e => by
                have := ((Kd.R_bound HI.out).1 k e.symm).2.2.1
                omega⟩)
              have HI7 := Aside0.mk (Kd.R_below HI.out HB7.out)
              have HBW := Aside0.mk (HB.out.trans (HB7.out.mono HB.out.size))
              have HSW := Aside0.mk HBW.out.size
              have HLN := Aside0.mk (show (((l.take i).map (taken xs)).length + 1) * 72 ≤ 140737488355328 by rw [List.length_map]; have := HIL.out; omega)
              clear hHeld b0 b1 b2
              go_wp2_with (at_builtin; (refine Kd.R_append k43 (w0 := w0) w0.heap.size rfl (.tmp 106) (.tmp 108) 51 43 (.agg #[.slice none 0 0, .slice none 0 0, .slice none 0 0]) 72 rfl Try.underlying51 info43 rfl (by decide) (by omega) u9 ((l.take i).map (taken xs)) (taken xs x) [.slice p.A0 xs.length p.c0, .slice p.A1 x.f1.length p.c1, .slice p.A2 rows.length p.c2] (fun _ => True) (fun k => wr.heap.size ≤ k) rfl rfl ?aP HOK.out (fun _ _ => trivial) ?aO ?aB ?aS ?aL ?_; (case aP => exact HPM.out); (case aO => exact HI7.out); (case aB => exact HBW.out); (case aS => exact HSW.out); (case aL => exact HLN.out); intro v109 w8 hi8 hb8 hg8 hn8; clear hg8 hn8; have HI8 := Aside0.mk hi8; have HB8 := Aside0.mk hb8; clear hi8 hb8))
              go_roundg g
              case measure => omega
              case rel =>
                refine ⟨i + 1, by omega, rfl, ⟨?_⟩, HB8⟩
                rw [HD.out, List.map_append]; exact HI8.out
          | zero =>
            have hlt : ¬ (i : Int) < (l.length : Int) := by omega
            have hil : i = l.length := by omega
            have HI2 := Aside0.mk (show k43.R 43 wr w0.heap.size (fun _ => True) u9 (l.map (taken xs)) by have := HI.out; rw [hil, List.take_length] at this; exact this)
            have hj := join_taken H016.out.1 H016.out.2 HT2.out HCI.out HCM.out
            have HOK := Aside0.mk (show ∀ y ∈ l.map (taken xs), okT y from fun y hy => by
              obtain ⟨x, hx, rfl⟩ := List.mem_map.1 hy
              obtain ⟨z0, z1, z2, z3⟩ := HZ.out x hx
              refine ⟨by have := HXL.out; show xs.length ≤ _; omega, z1, by show (x.f2.map _).length ≤ _; rw [List.length_map]; exact z2, fun c hc => ?_⟩
              obtain ⟨d, hd, rfl⟩ := List.mem_map.1 hc
              unfold colT
              rw [List.length_map]
              have := HXL.out
              omega)
            have HLN := Aside0.mk (show (l.map (taken xs)).length ≤ 140737488351232 by rw [List.length_map]; omega)
            obtain ⟨tl, htl⟩ : ∃ z, z = l.map (taken xs) := ⟨_, rfl⟩
            rw [← htl] at HI2 hj HOK HLN
            obtain ⟨A9, c9, hv9, hl9, hr9⟩ := Kd.R_reads HI2.out
            subst hv9
            have HC9 := Aside0.mk hr9
            obtain ⟨r, hr⟩ : ∃ r, r = joinP tl := ⟨_, rfl⟩
            rw [← hr] at hj
            have HRJ := Aside0.mk hr
            clear HI hil htl hr9 hr
            obtain ⟨j0, j1, j2, j3⟩ := r
            obtain ⟨hj0, hj3⟩ := hj
            change j0 = xs at hj0
            change j3 = 0 at hj3
            subst hj0 hj3
            go_wp2_with fail
            refine (Jw.join_calls A9 c9 tl _ HC9.out HLN.out HOK.out).mono ?_
            rw [← HRJ.out]
            rintro e w5 ⟨p, rfl, hp, hb5⟩
            obtain ⟨W5, hW5⟩ : ∃ W, W = w5.alloc (.cells #[.slice p.A0 j0.length p.c0, .slice p.A1 j1.length p.c1, .slice p.A2 j2.length p.c2] 43) := ⟨_, rfl⟩
            have hbb : Below wr.heap.size wr W5 := by rw [hW5]; exact below_alloc hb5 _
            have HB5 := Aside0.mk (HB.out.trans (hbb.mono HB.out.size))
            have HP5 := Aside0.mk (show IsTb W5 p.A0 p.A1 p.A2 p.c0 p.c1 p.c2 j0 j1 j2 by rw [hW5]; exact hp.below (below_alloc (Below.refl _ _) _))
            obtain ⟨a0, a1, a2⟩ := three_cells (show W5.heap[w5.heap.size]? = some (.cells #[.slice p.A0 j0.length p.c0, .slice p.A1 j1.length p.c1, .slice p.A2 j2.length p.c2] 43 (0, 0)) by rw [hW5]; exact blk_new w5 _)
            rw [hW5] at a0 a1 a2
            clear hp hb5 hbb
            go_wp2_with fail
            rw [← hW5]
            clear a0 a1 a2 hW5
            obtain ⟨k, hk⟩ := (ref_sameInts j0 j0 (by have := HXL.out; omega)).rounds
            refine (windbreakref12_SameInts.calls k p.A0 p.c0 j0 A7 c7 j0 _ _ HP5.out.r0 HP5.out.l0 (Kd.C_below HC7.out HB5.out) HC7L.out hk).mono ?_
            rintro e w6 ⟨rfl, hd⟩
            have HB6 := Aside0.mk (HB0.out.trans ((HB5.out.trans (hd.below.mono HB5.out.size)).mono HB0.out.size))
            clear hd
            rw [decide_eq_true rfl]
            go_wp2_with fail
            go_ret
            exact ⟨by simp, HB6.out⟩
end Go.Proofs.Ytdlkcohfgfnkbaa.Me
