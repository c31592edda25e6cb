/- dataset.Align: the walk. -/
import Derived.Test.YtdlkcohfgfnkbaaAl
import Derived.Test.YtdlkcohfgfnkbaaSo
namespace Go.Proofs.Ytdlkcohfgfnkbaa.Al
open Go.RowKit Go.Proofs.Ytdlkcohfgfnkbaa.PDatasetJoins Go.Proofs.Ytdlkcohfgfnkbaa.Tp Go.Proofs.Ytdlkcohfgfnkbaa.Tr Go.Proofs.Ytdlkcohfgfnkbaa.Il Go.Proofs.Ytdlkcohfgfnkbaa.Mp Go.Proofs.YtdlkcohfgfnkbaaW.PrintWords Go.Proofs.YtdlkcohfgfnkbaaW.PrintLast Go.Proofs.YtdlkcohfgfnkbaaW.PrintMore
set_option linter.unusedSimpArgs false
set_option linter.unusedVariables false

theorem zero3 (w : World) : (zeroValue 3).run Try.prog w = .ok (.int .i64 0) w := by kernel_rfl
theorem const_reads (w : World) (t : TypeId) (fr : Nat × Nat) (k : IntKind) (xs : List Int) (hl : xs.length ≤ 9223372036854775807) : Kd.C (Kd.int k) (w.alloc (.cells (xs.map (Value.int k)).toArray t fr)) (some ⟨w.heap.size, 0, none⟩) xs.length xs := by
  refine Kd.C_of_reads (d := (0 : Int)) (h1 := fun _ => rfl) ⟨rfl, hl, fun _ => ⟨_, rfl, fun j hj => ?_⟩⟩
  rw [Addr.add_mid, Nat.zero_add, World.cell?_alloc_mark]
  simp [hj]
theorem ints_app {ops : Array Oper} {rest : List Oper} {o : Oper} {a : Act} {Q : Exit → Act → World → Prop} {w0 W : World} (base : Nat) (hg : o.guard = none) (s x : Operand)
    (ho : o.op = .call { callee := .builtin .append, args := #[s, x], argTypes := #[31, 31] }) (v : Value) (xs ys : List Int) (A : Option Addr) (m c : Nat) (hs : a.eval s = v) (hx : a.eval x = .slice A m c)
    (HO : (Kd.int .i64).R 3 W base (fun _ => True) v xs) (HR : (Kd.int .i64).C W A m ys) (HB : Below base w0 W) (hbase : base ≤ W.heap.size) (hl : xs.length + m ≤ 17592186044416)
    (h : ∀ A1 n1 c1 w1, Aside0 (n1 = (xs ++ ys).length) → (Kd.int .i64).R 3 w1 base (fun _ => True) (.slice A1 n1 c1) (xs ++ ys) → Below base w0 w1 → W.grownBy w1 v.ownBlock → wpList Try.prog ops Q rest (a.put o.dst (.slice A1 n1 c1)) w1) :
    wpList Try.prog ops Q (o :: rest) a W := by
  refine Kd.R_append_rows (Kd.int .i64) (w0 := w0) base hg s x 31 3 (.int .i64 0) 8 ho Try.underlying31 info3 rfl (by decide) (by omega) v xs ys A m c (fun _ => True) (fun _ => False) hs hx HO HR
    (fun _ _ h => h) (fun _ h => h.elim) (fun _ _ => trivial) HB hbase (by omega) (fun v1 w1 h1 h2 h3 _ => ?_)
  obtain ⟨A1, c1, rfl, hc, hr⟩ := Kd.R_reads h1
  exact h A1 _ c1 w1 ⟨rfl⟩ h1 h2 h3
def outI (l : List (List Int)) (i : Nat) : List Int := if i = 0 then [] else oF l (i - 1) (l.getD (i - 1) []).length
theorem outI_len (l : List (List Int)) (i : Nat) (hi : ∀ x ∈ l, idsB x = true) : (outI l i).length ≤ 256 := by
  unfold outI
  split
  · simp
  · have h1 := oF_len l (i - 1) (l.getD (i - 1) []).length
    by_cases hm : i - 1 < l.length
    · have h2 := (ids_facts (hi (l.getD (i - 1) []) (by rw [List.getD_eq_getElem?_getD, List.getElem?_eq_getElem hm, Option.getD_some]; exact List.getElem_mem _))).1
      omega
    · rw [List.getD_eq_getElem?_getD, List.getElem?_eq_none (by omega)] at h1
      have : (none : Option (List Int)).getD [] = [] := rfl
      rw [this] at h1
      rw [List.getD_eq_getElem?_getD, List.getElem?_eq_none (by omega), this]
      simp only [List.length_nil] at h1 ⊢
      omega
theorem outI_end (l : List (List Int)) (h : 0 < l.length) : outI l l.length = oF l (l.length - 1) (l.getD (l.length - 1) []).length := if_neg (by omega)
theorem outI_start (l : List (List Int)) (i : Nat) (h : i < l.length) : outI l i = oF l i 0 := by
  rw [oF_zero]
  unfold outI
  split
  · rfl
  · exact oF_early l _ _ (by omega)
theorem outI_next (l : List (List Int)) (i : Nat) : outI l (i + 1) = oF l i (l.getD i []).length := if_neg (by omega)
theorem R_map {w w2 : World} {b : Nat} {v : Value} {xs : List Int} (h : (Kd.int .i64).R 3 w (b + 1) (fun _ => True) v xs) (hg : w.grownBy w2 (some b)) : (Kd.int .i64).R 3 w2 (b + 1) (fun _ => True) v xs :=
  Kd.R_mono (Kd.R_grown (Kd.R_bound h) hg (fun k hk e => by cases e; have := hk.2.1; omega)) (fun _ _ => trivial)
theorem below_map {w wx w2 : World} {b : Nat} (h : Below w.heap.size w wx) (hg : wx.grownBy w2 (some b)) (hb : w.heap.size ≤ b) : Below w.heap.size w w2 :=
  pw_below_grown h _ h.size hg (fun k hk => by cases hk; exact hb)
set_option maxHeartbeats 400000 in
theorem align_no (A : Option Addr) (c : Nat) (l : List (List Int)) (w : World) (hr : Kd.C (Kd.slice 3 (Kd.int .i64)) w A l.length l) (hl : l.length ≤ 140737488351232) (hz : ∀ x ∈ l, x.length ≤ 140737488351232) (h : manyL l ≠ 0) :
    Calls Try.prog 29 #[.slice A l.length c] w fun e w' => e = .returned (.tuple #[.slice none 0 0, .int .i64 (manyL l)]) ∧ Below w.heap.size w w' := by
  have HR := Aside0.mk hr
  have HZ := Aside0.mk hz
  obtain ⟨E, hE⟩ : ∃ E, E = manyL l := ⟨_, rfl⟩
  have hne : (E != 0) = true := by rw [bne_iff_ne, hE]; exact h
  have HE := Aside0.mk hE
  clear hr hz h hE
  go_enter Try.func29, Try.ntmps29
  go_wp2_with fail
  refine (many_calls A c l _ HR.out hl HZ.out).mono ?_
  rintro e w1 ⟨rfl, hb⟩
  rw [← HE.out]
  have HB := Aside0.mk hb
  clear hb
  go_wp2_with fail
  go_ret2
  exact ⟨by rw [← HE.out]; rfl, HB.out⟩
set_option maxRecDepth 100000 in
set_option maxHeartbeats 2000000 in
theorem align_yes (A : Option Addr) (c : Nat) (l : List (List Int)) (w : World) (hr : Kd.C (Kd.slice 3 (Kd.int .i64)) w A l.length l) (hl : l.length ≤ 140737488351232) (hz : ∀ x ∈ l, x.length ≤ 140737488351232) (h : manyL l = 0) :
    Calls Try.prog 29 #[.slice A l.length c] w fun e w' => ∃ v, e = .returned (.tuple #[v, .int .i64 0]) ∧ (Kd.int .i64).R 3 w' w.heap.size (fun _ => True) v (srt (oF l (l.length - 1) (l.getD (l.length - 1) []).length)) ∧ Below w.heap.size w w' := by
  have HR := Aside0.mk hr
  have HZ := Aside0.mk hz
  have HM := Aside0.mk h
  have hmm := @run_makeMap Try.prog
  obtain ⟨h1, h16, hids⟩ := many_zero h
  have HI := Aside0.mk hids
  clear hr hz h hids
  go_enter Try.func29, Try.ntmps29
  go_wp2_with fail
  refine (many_calls A c l _ HR.out hl HZ.out).mono ?_
  rintro e w1 ⟨rfl, hb⟩
  rw [HM.out]
  have HB := Aside0.mk hb
  clear hb
  go_wp2_with fail
  clear hmm
  have HB1 := Aside0.mk (below_alloc HB.out (.map #[] 0))
  have HSZ := Aside0.mk (show (w1.alloc (.map #[] 0)).heap.size = w1.heap.size + 1 from World.size_alloc _ _)
  go_loopg [6, 19] l.length (fun g v6 v19 wx => ∃ (i s m : Nat), i + g = l.length ∧ v19 = .int .i64 (i : Int) ∧ Aside0 (IntMap Try.prog 3 wx w1.heap.size m (gF l i 0) s) ∧ Aside0 (m ≤ 300 * i) ∧ Aside0 ((Kd.int .i64).R 3 wx (w1.heap.size + 1) (fun _ => True) v6 (outI l i)) ∧ Aside0 (Below w.heap.size w wx) ∧ Aside0 (w1.heap.size + 1 ≤ wx.heap.size))
  case atStart => exact ⟨0, 0, 0, by omega, rfl, ⟨(IntMap.made _ _ _).congr (fun x _ => (gF_zero l x).symm)⟩, ⟨Nat.zero_le _⟩, ⟨Kd.R_nil _ _ _ _ _⟩, HB1, ⟨Nat.le_of_eq HSZ.out.symm⟩⟩
  case round =>
    obtain ⟨i, s, m, hig, rfl, HIM, HMM, HO, HBB, HS1⟩ := hrel
    cases gk with
    | zero =>
      have hlt : ¬ (i : Int) < (l.length : Int) := by omega
      have HE := Aside0.mk (show i = l.length by omega)
      have hol := outI_len l i HI.out
      go_wp2_with fail
      refine (So.sort_calls (w1.heap.size + 1) u6 (outI l i) _ HO.out (by omega)).mono ?_
      rintro e w5 ⟨rfl, ho5, hg5⟩
      have HO5 := Aside0.mk (show (Kd.int .i64).R 3 w5 w.heap.size (fun _ => True) u6 (srt (oF l (l.length - 1) (l.getD (l.length - 1) []).length)) by
        have := HE.out
        rw [this, outI_end l h1] at ho5
        exact Kd.R_lower ho5 (by have := HB.out.size; omega))
      have HB5 := Aside0.mk (pw_below_grown HBB.out _ HBB.out.size hg5 (fun k hk => by
        have := (Kd.R_bound HO.out).1 k hk
        have := HB.out.size
        omega))
      clear ho5 hg5
      obtain ⟨A5, c5, hv5, _, _⟩ := Kd.R_reads HO5.out
      subst hv5
      go_wp2_with fail
      go_ret2
      exact ⟨_, rfl, HO5.out, HB5.out⟩
    | succ g =>
      have hlt : (i : Int) < (l.length : Int) := by omega
      obtain ⟨ad, Ac, cc, hA, hcc, hcl, hcr⟩ := at_L1 (Kd.C_below HR.out HBB.out) (i : Int) (by omega) hlt
      subst hA
      rw [Int.toNat_natCast] at hcc
      have hgc : rd_L1 l (i : Int) = l.getD i [] := rdL_getD l i
      rw [hgc] at hcc hcl hcr
      have hmem : l.getD i [] ∈ l := by
        rw [List.getD_eq_getElem?_getD, List.getElem?_eq_getElem (show i < l.length by omega), Option.getD_some]
        exact List.getElem_mem _
      obtain ⟨i1, i2, i3⟩ := ids_facts (HI.out _ hmem)
      have HCI := Aside0.mk (And.intro i1 (And.intro i2 i3))
      obtain ⟨col, hcol⟩ : ∃ col, col = l.getD i [] := ⟨_, rfl⟩
      rw [← hcol] at hcc hcl hcr HCI
      have HCOL := Aside0.mk hcol
      have HCR := Aside0.mk (show Kd.C (Kd.int .i64) w Ac col.length col from by
        have := (at_L1 HR.out (i : Int) (by omega) hlt)
        obtain ⟨ad', Ac', cc', hA', hcc', hcl', hcr'⟩ := this
        rw [Int.toNat_natCast] at hcc'
        have e1 : ad = ad' := Option.some.inj hA'
        rw [← e1] at hcc'
        have hlow := pw_cell_below HBB.out hcc'
        rw [hcc] at hlow
        injection hlow with hlow
        injection hlow with e2 e3 e4
        rw [e2, hcol, ← hgc]
        exact hcr')
      clear hgc hmem i1 i2 i3 hcol hcr
      go_wp2_with fail
      have HO0 := Aside0.mk (show (Kd.int .i64).R 3 wr (w1.heap.size + 1) (fun _ => True) u6 (oF l i 0) by rw [← outI_start l i (by omega)]; exact HO.out)
      clear HO hcc
      obtain ⟨Wo, hWo⟩ : ∃ W, W = wr := ⟨_, rfl⟩
      rw [← hWo] at HIM HO0 HBB HS1
      rw [← hWo]
      clear hWo wr
      go_loopg [6, 25] col.length (fun g v6 v25 wx => ∃ (j s m : Nat), j + g = col.length ∧ v25 = .int .i64 (j : Int) ∧ Aside0 (IntMap Try.prog 3 wx w1.heap.size m (gF l i j) s) ∧ Aside0 (m ≤ 300 * i + j) ∧ Aside0 ((Kd.int .i64).R 3 wx (w1.heap.size + 1) (fun _ => True) v6 (oF l i j)) ∧ Aside0 (Below w.heap.size w wx) ∧ Aside0 (w1.heap.size + 1 ≤ wx.heap.size))
      case atStart => exact ⟨0, s, m, by omega, rfl, HIM, ⟨HMM.out⟩, HO0, HBB, HS1⟩
      case round =>
        clear HIM HMM HO0 HBB HS1
        obtain ⟨j, s, m, hjg, rfl, HIM, HMM, HO, HBB, HS1⟩ := hrel
        cases gk with
        | zero =>
          have hlt2 : ¬ (j : Int) < (col.length : Int) := by omega
          have HE := Aside0.mk (show j = col.length by omega)
          go_wp2_with fail
          go_roundg g
          case measure => omega
          case rel =>
            have hc := HCI.out.1
            refine ⟨i + 1, s, m, by omega, rfl, ⟨HIM.out.congr (fun x _ => ?_)⟩, ⟨by have := HMM.out; omega⟩, ⟨?_⟩, HBB, HS1⟩
            · rw [HE.out, HCOL.out]; exact gF_next l i x
            · rw [outI_next, ← HCOL.out, ← HE.out]; exact HO.out
        | succ gi =>
          have hlt2 : (j : Int) < (col.length : Int) := by omega
          obtain ⟨ae, hAe, hce⟩ := Kd.at_int (Kd.C_below HCR.out HBB.out) (j : Int) (by omega) hlt2
          subst hAe
          rw [Int.toNat_natCast] at hce
          have hx := HCI.out.2.1 _ (rd_mem col j (by omega))
          obtain ⟨x, hxe⟩ : ∃ x, x = rd col (j : Int) := ⟨_, rfl⟩
          rw [← hxe] at hce hx
          have hxe2 : x = rd (l.getD i []) (j : Int) := by rw [← HCOL.out]; exact hxe
          have hnd : (l.getD i []).Nodup := by rw [← HCOL.out]; exact HCI.out.2.2
          have hjl : j < (l.getD i []).length := by rw [← HCOL.out]; omega
          have hcf : cF l i j x = cN l i x := by rw [hxe2]; exact cF_at l i j hnd hjl
          have hcf' : cF l i (j + 1) x = cN l i x + 1 := by rw [hxe2]; exact cF_at' l i j hjl
          have hst : ∀ y, upd (gF l i j) x (some (.int .i64 ((cF l i j x : Int) + 1))) y = gF l i (j + 1) y := gF_step l i j hnd hjl x hxe2
          have hos := oF_step l i j hjl
          rw [← hxe2] at hos
          have hcle := cN_le l x i
          obtain ⟨q, hq⟩ : ∃ q, q = cN l i x := ⟨_, rfl⟩
          rw [← hq] at hcf hcf' hos hcle
          rw [hcf] at hst
          have hget : (gF l i j x).getD (.int .i64 0) = .int .i64 (q : Int) := by rw [gF_get, hcf]
          have hget' : (gF l i (j + 1) x).getD (.int .i64 0) = .int .i64 ((q : Int) + 1) := by rw [gF_get, hcf']; rfl
          have HST := Aside0.mk hst
          have HOS := Aside0.mk hos
          have HG1 := Aside0.mk hget
          have HG2 := Aside0.mk hget'
          have HX := Aside0.mk (I64.mk (x := x) (by omega) (by omega))
          have hq16 : (q : Int) < 16 := by omega
          have hj256 : (j : Int) < 256 := by have := HCI.out.1; omega
          have HMX := Aside0.mk (show m < maxLen by unfold maxLen; have := HMM.out; have := HCI.out.1; omega)
          have hol := oF_len l i j
          rw [← HCOL.out] at hol
          have HOL := Aside0.mk (show (oF l i j).length ≤ 256 by have := HCI.out.1; omega)
          clear hst hos hget hget' hx hxe hxe2 hnd hjl hcf hcf' hcle hq hol
          by_cases hn : q + 1 = l.length
          · have hnb : ((q : Int) + 1 == (l.length : Int)) = true := by simp; omega
            have HN := Aside0.mk hn
            clear hn
            have HBQ : ∀ (w2 : World) (o : Obj), w1.heap.size + 1 ≤ w2.heap.size → Below (w1.heap.size + 1) w2 (w2.alloc o) := fun w2 o h => (Below.refl _ w2).alloc h o
            have HSQ : ∀ (w2 : World) (o : Obj), w1.heap.size + 1 ≤ w2.heap.size → w1.heap.size + 1 ≤ (w2.alloc o).heap.size := fun w2 o h => by rw [World.size_alloc]; omega
            have HLQ := Aside0.mk (show (oF l i j).length + 1 ≤ 17592186044416 by have := HOL.out; omega)
            go_wp2_with (first
              | (at_lookup; refine wp_look law Try.underlying3 Try.underlying67 (zero3 _) HIM.out rfl (.tmp 29) (.tmp 30) rfl rfl x rfl HX.out ?_; rw [HG1.out])
              | (at_mapUpdate; refine wp_store law Try.underlying3 Try.underlying67 HIM.out HMX.out rfl (.tmp 29) (.tmp 30) (.tmp 32) rfl rfl x (.int .i64 ((q : Int) + 1)) rfl rfl HX.out ?_; intro w2 hm2 hg2; have HM2 := Aside0.mk (hm2.congr (fun y _ => HST.out y)); have HGR := Aside0.mk hg2; have HO2 := Aside0.mk (R_map HO.out hg2); have HB2 := Aside0.mk (below_map HBB.out hg2 HB.out.size); have HS2 := Aside0.mk (Nat.le_trans HS1.out hg2.size); clear hm2 hg2)
              | (at_lookup; refine wp_look law Try.underlying3 Try.underlying67 (zero3 _) HM2.out rfl (.tmp 33) (.tmp 34) rfl rfl x rfl HX.out ?_; rw [HG2.out])
              | (at_builtin; refine ints_app (w0 := w2) (w1.heap.size + 1) rfl (.tmp 39) (.tmp 41) rfl _ (oF l i j) [x] _ 1 1 rfl rfl (Kd.R_alloc HO2.out _) (const_reads w2 3 (0, 0) .i64 [x] (by simp)) (HBQ w2 _ HS2.out) (HSQ w2 _ HS2.out) (HLQ.out) ?_; intro A3 n3 c3 w3 hn3 ho3 hb3 hg3; have HO3 := Aside0.mk ho3; have HB3 := Aside0.mk hb3; clear ho3 hb3 hg3 hn3))
            go_roundg gi
            case measure => omega
            case rel =>
              refine ⟨j + 1, _, m + 1, by omega, rfl, ⟨HM2.out.low HB3.out (by omega)⟩, ⟨by have := HMM.out; omega⟩, ⟨?_⟩, ⟨HB2.out.trans (HB3.out.mono (by have := HB.out.size; omega)) ⟩, ⟨Nat.le_trans HS2.out HB3.out.size⟩⟩
              rw [HOS.out, if_pos HN.out]
              exact HO3.out
          · have hnb : ((q : Int) + 1 == (l.length : Int)) = false := by rw [beq_eq_false_iff_ne]; omega
            have HN := Aside0.mk hn
            clear hn
            go_wp2_with (first
              | (at_lookup; refine wp_look law Try.underlying3 Try.underlying67 (zero3 _) HIM.out rfl (.tmp 29) (.tmp 30) rfl rfl x rfl HX.out ?_; rw [HG1.out])
              | (at_mapUpdate; refine wp_store law Try.underlying3 Try.underlying67 HIM.out HMX.out rfl (.tmp 29) (.tmp 30) (.tmp 32) rfl rfl x (.int .i64 ((q : Int) + 1)) rfl rfl HX.out ?_; intro w2 hm2 hg2; have HM2 := Aside0.mk (hm2.congr (fun y _ => HST.out y)); have HGR := Aside0.mk hg2; have HO2 := Aside0.mk (R_map HO.out hg2); have HB2 := Aside0.mk (below_map HBB.out hg2 HB.out.size); have HS2 := Aside0.mk (Nat.le_trans HS1.out hg2.size); clear hm2 hg2)
              | (at_lookup; refine wp_look law Try.underlying3 Try.underlying67 (zero3 _) HM2.out rfl (.tmp 33) (.tmp 34) rfl rfl x rfl HX.out ?_; rw [HG2.out]))
            go_roundg gi
            case measure => omega
            case rel =>
              refine ⟨j + 1, _, m + 1, by omega, rfl, ⟨HM2.out⟩, ⟨by have := HMM.out; omega⟩, ⟨?_⟩, ⟨HB2.out⟩, ⟨HS2.out⟩⟩
              rw [HOS.out, if_neg HN.out]
              exact HO2.out
end Go.Proofs.Ytdlkcohfgfnkbaa.Al
