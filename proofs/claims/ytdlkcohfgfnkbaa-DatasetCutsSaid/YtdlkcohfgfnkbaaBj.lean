/- Sets of bits: bitset.join and its callers: the walks. -/
import Derived.Test.YtdlkcohfgfnkbaaBr
import Derived.Outline
import Derived.StillTailTactics
namespace Go.Proofs.Ytdlkcohfgfnkbaa.Bj
open Go.RowKit Go.Proofs.Ytdlkcohfgfnkbaa.PBitsetJoins Go.Proofs.Ytdlkcohfgfnkbaa.Bp Go.Proofs.YtdlkcohfgfnkbaaW.PrintWords Go.Proofs.YtdlkcohfgfnkbaaW.PrintLast Go.Proofs.YtdlkcohfgfnkbaaW.PrintMore
set_option linter.unusedSimpArgs false
set_option linter.unusedVariables false

theorem word42 (x y : Int) (w : World) : Calls Try.prog 42 #[.int .u64 x, .int .u64 y] w fun e w' => e = .returned (.int .u64 (Go.bits .and .u64 x y)) ∧ w' = w := by
  go_enter Try.func42, Try.ntmps42
  go_wp2
  go_ret
  exact ⟨rfl, rfl⟩
theorem word44 (x y : Int) (w : World) : Calls Try.prog 44 #[.int .u64 x, .int .u64 y] w fun e w' => e = .returned (.int .u64 (Go.bits .or .u64 x y)) ∧ w' = w := by
  go_enter Try.func44, Try.ntmps44
  go_wp2
  go_ret
  exact ⟨rfl, rfl⟩
theorem word45 (x y : Int) (w : World) : Calls Try.prog 45 #[.int .u64 x, .int .u64 y] w fun e w' => e = .returned (.int .u64 (Go.bits .andNot .u64 x y)) ∧ w' = w := by
  go_enter Try.func45, Try.ntmps45
  go_wp2
  go_ret
  exact ⟨rfl, rfl⟩
theorem box_cell {w W : World} {vs : Array Value} {t : Nat} (h : Below (w.alloc (.cells vs t)).heap.size (w.alloc (.cells vs t)) W) (j : Nat) (v : Value) (hv : vs[j]? = some v) : W.cell? ⟨w.heap.size, j, none⟩ = some v := by
  rw [h.cell (p := ⟨w.heap.size, j, none⟩) (show w.heap.size < (w.alloc (.cells vs t)).heap.size by simp), World.cell?_alloc_mark, hv]

theorem R_set2 {w : World} {base base' g : Nat} {v : Value} {xs : List Int} (h : (Kd.int .u64).R 30 w base (fun _ => True) v xs) (hg : g < base) (i j : Nat) (x y : Value) (hb : base' ≤ base) : (Kd.int .u64).R 30 ((w.setCell ⟨g, i, none⟩ x).setCell ⟨g, j, none⟩ y) base' (fun _ => True) v xs := by
  have h1 := Kd.R_bound h
  have h2 := Kd.R_far h1 (p := ⟨g, i, none⟩) (fun k hk => by have := hk.2.1; show k ≠ g; omega) x
  have h3 := Kd.R_far h2 (p := ⟨g, j, none⟩) (fun k hk => by have := hk.2.1; show k ≠ g; omega) y
  exact Kd.R_lower (Kd.R_mono h3 (fun _ _ => trivial)) hb

theorem fill_step (z : List Int) (i g : Nat) (hi : i < z.length) (v : Int) (hv : v = z.getD i 0) : (z.take i ++ List.replicate (g + 1) 0).set i v = z.take (i + 1) ++ List.replicate g 0 := by
  have hl : (z.take i).length = i := by rw [List.length_take]; omega
  rw [List.set_append_right _ _ (by omega), hl, Nat.sub_self, List.replicate_succ, List.set_cons_zero, List.take_succ_eq_append_getElem hi, List.append_assoc]
  congr 1
  rw [hv, List.getD_eq_getElem?_getD, List.getElem?_eq_getElem hi]
  rfl
theorem grown_drew {w W : World} {row : Option Nat} (h : w.grownBy W row) : w.grownBy W.drew row := ⟨h.os, h.tape, h.output, h.size, h.block⟩

set_option maxRecDepth 100000 in
set_option maxHeartbeats 1000000 in
theorem join42 (N M : Int) (A B : Option Addr) (ca cb : Nat) (a b : List Int) (w : World) (hra : Kd.C (Kd.int .u64) w A a.length a) (hca : a.length ≤ ca) (hrb : Kd.C (Kd.int .u64) w B b.length b) (hcb : b.length ≤ cb)
    (ha : Wf a) (hb : Wf b) (hla : a.length ≤ 140737488351232) (hlb : b.length ≤ 140737488351232) (h1 : rightB N a = true) (h2 : rightB N b = true) :
    Calls Try.prog 41 #[.agg #[.int .i64 N, .slice A a.length ca], .agg #[.int .i64 N, .slice B b.length cb], .func (.func 42) #[] #[]] w fun e w' => ∃ v, e = .returned (.tuple #[.agg #[.int .i64 N, v], .int .i64 0]) ∧ (Kd.int .u64).R 30 w' w.heap.size (fun _ => True) v (List.zipWith (Go.bits .and .u64) a b) ∧ Below w.heap.size w w' := by
  have HRA := Aside0.mk hra
  have HRB := Aside0.mk hrb
  have HP1 := Aside0.mk ((prog_right N a ha hla).trans (by rw [h1]))
  have HP2 := Aside0.mk ((prog_right N b hb hlb).trans (by rw [h2]))
  have h3 := right_len h1
  have h4 := right_len h2
  have HL := Aside0.mk (And.intro h3 h4)
  have HNW := Aside0.mk (show bitset_New.f N = some (N, List.replicate a.length 0, 0) by rw [prog_new, if_neg (by omega), show ((N + 63) / 64).toNat = a.length by omega])
  have hN0 := h3.1
  have hN1 := h3.2.1
  clear hra hrb h1 h2 h3 h4
  go_enter Try.func41, Try.ntmps41
  go_wp2_with fail
  obtain ⟨W1, hW1⟩ : ∃ W, W = ((w.alloc (.cells #[.int .i64 N, .slice A a.length ca] 24)).alloc (.cells #[.int .i64 N, .slice B b.length cb] 24)).alloc (.cells #[.int .i64 0, .slice none 0 0] 24) := ⟨_, rfl⟩
  have hB1 : Below w.heap.size w W1 := by rw [hW1]; exact below_alloc (below_alloc (below_alloc (Below.refl _ _) _) _) _
  have hs1 : W1.heap.size = w.heap.size + 3 := by rw [hW1]; simp
  have kA : W1.heap[w.heap.size]? = some (.cells #[.int .i64 N, .slice A a.length ca] 24 (0, 0)) := by rw [hW1]; exact blk_alloc (blk_alloc (blk_new w _) _) _
  have kB : W1.heap[w.heap.size + 1]? = some (.cells #[.int .i64 N, .slice B b.length cb] 24 (0, 0)) := by rw [hW1, ← World.size_alloc w (.cells #[.int .i64 N, .slice A a.length ca] 24)]; exact blk_alloc (blk_new _ _) _
  have kR : W1.heap[w.heap.size + 1 + 1]? = some (.cells #[.int .i64 0, .slice none 0 0] 24 (0, 0)) := by rw [hW1, ← World.size_alloc w (.cells #[.int .i64 N, .slice A a.length ca] 24), ← World.size_alloc _ (.cells #[.int .i64 N, .slice B b.length cb] 24)]; exact blk_new _ _
  rw [← hW1]
  have HB1 := Aside0.mk hB1
  have KA := Aside0.mk kA
  have KB := Aside0.mk kB
  have KR := Aside0.mk kR
  have HS1 := Aside0.mk hs1
  clear hW1 kA kB kR hs1
  refine (bitset_Right.calls N A ca a true _ (Kd.C_below HRA.out hB1) hca HP1.out).mono ?_
  rintro e w2 ⟨rfl, hb2⟩
  have HB2 := Aside0.mk hb2
  have q0 := fun o => (hb2.cell (p := ⟨w.heap.size + 1, o, none⟩) (show w.heap.size + 1 < W1.heap.size by have := HS1.out; omega)).trans (blk_cell KB.out o)
  have q00 := (q0 0).trans rfl
  have q01 := (q0 1).trans rfl
  clear q0 hb2 hB1
  go_wp2_with fail
  refine (bitset_Right.calls N B cb b true _ (Kd.C_below HRB.out (HB1.out.trans (HB2.out.mono HB1.out.size))) hcb HP2.out).mono ?_
  rintro e w3 ⟨rfl, hb3⟩
  have HB3 := Aside0.mk (HB2.out.trans (hb3.mono HB2.out.size))
  have p00 := ((HB3.out.cell (p := ⟨w.heap.size, 0, none⟩) (show w.heap.size < W1.heap.size by have := HS1.out; omega)).trans (blk_cell KA.out 0)).trans rfl
  have p01 := ((HB3.out.cell (p := ⟨w.heap.size + 1, 0, none⟩) (show w.heap.size + 1 < W1.heap.size by have := HS1.out; omega)).trans (blk_cell KB.out 0)).trans rfl
  clear q00 q01 hb3
  go_wp2_with fail
  refine (bitset_New.calls N _ _ _ _ HNW.out).mono ?_
  rintro e w4 ⟨V, rfl, ho4, hb4⟩
  obtain ⟨A4, c4, rfl, hc4, hr4⟩ := Kd.R_reads ho4
  rw [List.length_replicate] at hc4 hr4 ⊢
  go_wp2_with fail
  have HB4 := Aside0.mk (HB3.out.trans (hb4.mono HB3.out.size))
  obtain ⟨W5, hW5⟩ : ∃ W, W = w4.alloc (.cells #[.int .i64 N, .slice A4 a.length c4] 24) := ⟨_, rfl⟩
  have HK := Aside0.mk (show W5.heap[w.heap.size]? = some (.cells #[.int .i64 N, .slice A a.length ca] 24 (0, 0)) ∧ W5.heap[w.heap.size + 1]? = some (.cells #[.int .i64 N, .slice B b.length cb] 24 (0, 0)) ∧ W5.heap[w.heap.size + 1 + 1]? = some (.cells #[.int .i64 0, .slice none 0 0] 24 (0, 0)) ∧ W5.heap[w4.heap.size]? = some (.cells #[.int .i64 N, .slice A4 a.length c4] 24 (0, 0)) by
    rw [hW5]
    exact ⟨blk_alloc (blk_below KA.out HB4.out) _, blk_alloc (blk_below KB.out HB4.out) _, blk_alloc (blk_below KR.out HB4.out) _, blk_new _ _⟩)
  have HR5 := Aside0.mk (show (Kd.int .u64).R 30 W5 w3.heap.size (fun _ => True) (.slice A4 a.length c4) (List.replicate a.length 0) by rw [hW5]; rw [List.length_replicate] at ho4; exact Kd.R_alloc ho4 _)
  have HB5 := Aside0.mk (show Below w.heap.size w W5 by rw [hW5]; exact below_alloc (HB1.out.trans (HB4.out.mono HB1.out.size)) _)
  have HS5 := Aside0.mk (show w.heap.size + 3 ≤ w3.heap.size ∧ w3.heap.size ≤ w4.heap.size ∧ W5.heap.size = w4.heap.size + 1 by
    have h1 := HB3.out.size
    have h2 := hb4.size
    have h3 := HS1.out
    rw [hW5, World.size_alloc]
    omega)
  have HOB := Aside0.mk (fun k (hk : (Value.slice A4 a.length c4).ownBlock = some k) => show w3.heap.size ≤ k ∧ k < w4.heap.size by
    rw [List.length_replicate] at ho4
    have := (Kd.R_bound ho4).1 k hk
    exact ⟨this.2.1, this.2.2.1⟩)
  rw [← hW5]
  clear hW5 hr4 ho4 hb4 p00 p01
  go_loopg [10, 36] a.length (fun g v10 v36 wx => ∃ i : Nat, i + g = a.length ∧ v36 = .int .i64 (i : Int) ∧ Aside0 ((Kd.int .u64).R 30 wx w3.heap.size (fun _ => True) (.slice A4 a.length c4) ((List.zipWith (Go.bits .and .u64) a b).take i ++ List.replicate g 0)) ∧ Aside0 (W5.grownBy wx (Value.slice A4 a.length c4).ownBlock) ∧ Aside0 (Below w.heap.size w wx))
  case atStart => exact ⟨0, by omega, rfl, HR5, ⟨World.grownBy.refl _ _⟩, HB5⟩
  case round =>
    obtain ⟨i, hig, rfl, HR, HG, HB⟩ := hrel
    have k1 := blk_grown HK.out.1 HG.out (fun e => by have := HOB.out _ e.symm; have := HS5.out; omega)
    have k2 := blk_grown HK.out.2.1 HG.out (fun e => by have := HOB.out _ e.symm; have := HS5.out; omega)
    have k3 := blk_grown HK.out.2.2.1 HG.out (fun e => by have := HOB.out _ e.symm; have := HS5.out; omega)
    have k4 := blk_grown HK.out.2.2.2 HG.out (fun e => by have := HOB.out _ e.symm; have := HS5.out; omega)
    cases gk with
    | zero =>
      have hlt : ¬ (i : Int) < (a.length : Int) := by omega
      have K3 := Aside0.mk k3
      have c40 := (blk_cell k4 0).trans rfl
      have c41 := (blk_cell k4 1).trans rfl
      have c30 := (blk_cell k3 0).trans rfl
      have c31 := (blk_cell k3 1).trans rfl
      have f30 := blk_frozen k3 0
      have f31 := blk_frozen k3 1
      have HR' := Aside0.mk (show (Kd.int .u64).R 30 wr w3.heap.size (fun _ => True) (.slice A4 a.length c4) (List.zipWith (Go.bits .and .u64) a b) by
        have := HR.out
        rw [List.replicate_zero, List.append_nil, List.take_of_length_le (by rw [List.length_zipWith]; omega)] at this
        exact this)
      clear k1 k2 k3 k4 HR
      go_wp2_with fail
      refine bodyPost_ret (results_ct rfl _ _ (w.heap.size + 1 + 1) 24 #[.int .i64 N, .slice A4 a.length c4] (0, 0) _ rfl (blk_put (cs := #[.int .i64 N, .slice none 0 0]) (blk_put K3.out 0 _ rfl) 1 _ rfl) Try.underlying24 rfl (by kernel_rfl)) rfl ⟨_, rfl, ?_, below_set (below_set HB.out (by show w.heap.size ≤ w.heap.size + 1 + 1; omega)) (by show w.heap.size ≤ w.heap.size + 1 + 1; omega)⟩
      exact R_set2 HR'.out (by have := HS5.out; omega) _ _ _ _ (by have := HS5.out; omega)
    | succ g =>
      have hlt : (i : Int) < (a.length : Int) := by omega
      have HOW := Aside0.mk (Kd.own_of_R HR.out)
      obtain ⟨g4, cap, hsl, hbg, hlg⟩ := HOW.out.form (by rw [List.length_append, List.length_take, List.length_replicate, List.length_zipWith]; omega)
      injection hsl with e1 e2 e3
      subst e1 e3
      clear e2
      have hl2 : b.length = a.length := by have := HL.out; omega
      have hi2 : (i : Int) < (b.length : Int) := by omega
      obtain ⟨ada, rfl, hca2⟩ := Kd.at_int (Kd.C_below HRA.out HB.out) (i : Int) (by omega) hlt
      obtain ⟨adb, rfl, hcb2⟩ := Kd.at_int (Kd.C_below HRB.out HB.out) (i : Int) (by omega) hi2
      rw [Int.toNat_natCast] at hca2 hcb2
      have hlen : ((List.zipWith (Go.bits .and .u64) a b).take i ++ List.replicate (g + 1) 0).length = a.length := by rw [List.length_append, List.length_take, List.length_replicate, List.length_zipWith]; omega
      have HOW2 := HOW.out
      rw [hlen] at HOW2
      obtain ⟨hc1, hf1⟩ := own_at HOW2 (i : Int) (by omega) (by omega)
      have hst := own_store HOW2 (i : Int) (Go.bits .and .u64 (rd a (i : Int)) (rd b (i : Int)))
      rw [Int.toNat_natCast] at hc1 hf1 hst
      have HST := Aside0.mk hst
      have c10 := (blk_cell k1 1).trans rfl
      have c20 := (blk_cell k2 1).trans rfl
      have c40 := (blk_cell k4 1).trans rfl
      have HLN := Aside0.mk hlen
      have HL2 := Aside0.mk hl2
      clear k1 k2 k3 k4 HR hst hlen HOW2 hl2
      go_wp2_with fail
      go_still_tail 16, (by kernel_rfl)
      still_call (word42 _ _ _)
      repeat still_step
      refine wpStill_nil ?_
      go_wp2_with fail
      go_roundg g
      case measure => omega
      case rel =>
        refine ⟨i + 1, by omega, rfl, ⟨?_⟩, ⟨?_⟩, ⟨?_⟩⟩
        · have h1 := Kd.R_of_own (h1 := fun _ => rfl) (enc := Value.int .u64) (ok := fun _ => True) (e := 30) (base := w3.heap.size) (v := .slice (some ⟨g4, 0, none⟩) a.length c4) (xs := ((List.zipWith (Go.bits .and .u64) a b).take i ++ List.replicate (g + 1) 0).set i (Go.bits .and .u64 (rd a (i : Int)) (rd b (i : Int)))) (by rw [List.length_set, HLN.out]; exact HST.out.1) (fun _ _ => trivial)
          rw [fill_step _ i g (by rw [List.length_zipWith]; omega) _ (by rw [zip_get _ a b HL2.out.symm i (by omega)]; rfl)] at h1
          exact Kd.R_drew h1
        · exact grown_drew (HG.out.trans HST.out.2)
        · exact below_drew (below_set HB.out (by have := HS5.out; have := HB1.out.size; omega))
set_option maxRecDepth 100000 in
set_option maxHeartbeats 1000000 in
theorem join44 (N M : Int) (A B : Option Addr) (ca cb : Nat) (a b : List Int) (w : World) (hra : Kd.C (Kd.int .u64) w A a.length a) (hca : a.length ≤ ca) (hrb : Kd.C (Kd.int .u64) w B b.length b) (hcb : b.length ≤ cb)
    (ha : Wf a) (hb : Wf b) (hla : a.length ≤ 140737488351232) (hlb : b.length ≤ 140737488351232) (h1 : rightB N a = true) (h2 : rightB N b = true) :
    Calls Try.prog 41 #[.agg #[.int .i64 N, .slice A a.length ca], .agg #[.int .i64 N, .slice B b.length cb], .func (.func 44) #[] #[]] w fun e w' => ∃ v, e = .returned (.tuple #[.agg #[.int .i64 N, v], .int .i64 0]) ∧ (Kd.int .u64).R 30 w' w.heap.size (fun _ => True) v (List.zipWith (Go.bits .or .u64) a b) ∧ Below w.heap.size w w' := by
  have HRA := Aside0.mk hra
  have HRB := Aside0.mk hrb
  have HP1 := Aside0.mk ((prog_right N a ha hla).trans (by rw [h1]))
  have HP2 := Aside0.mk ((prog_right N b hb hlb).trans (by rw [h2]))
  have h3 := right_len h1
  have h4 := right_len h2
  have HL := Aside0.mk (And.intro h3 h4)
  have HNW := Aside0.mk (show bitset_New.f N = some (N, List.replicate a.length 0, 0) by rw [prog_new, if_neg (by omega), show ((N + 63) / 64).toNat = a.length by omega])
  have hN0 := h3.1
  have hN1 := h3.2.1
  clear hra hrb h1 h2 h3 h4
  go_enter Try.func41, Try.ntmps41
  go_wp2_with fail
  obtain ⟨W1, hW1⟩ : ∃ W, W = ((w.alloc (.cells #[.int .i64 N, .slice A a.length ca] 24)).alloc (.cells #[.int .i64 N, .slice B b.length cb] 24)).alloc (.cells #[.int .i64 0, .slice none 0 0] 24) := ⟨_, rfl⟩
  have hB1 : Below w.heap.size w W1 := by rw [hW1]; exact below_alloc (below_alloc (below_alloc (Below.refl _ _) _) _) _
  have hs1 : W1.heap.size = w.heap.size + 3 := by rw [hW1]; simp
  have kA : W1.heap[w.heap.size]? = some (.cells #[.int .i64 N, .slice A a.length ca] 24 (0, 0)) := by rw [hW1]; exact blk_alloc (blk_alloc (blk_new w _) _) _
  have kB : W1.heap[w.heap.size + 1]? = some (.cells #[.int .i64 N, .slice B b.length cb] 24 (0, 0)) := by rw [hW1, ← World.size_alloc w (.cells #[.int .i64 N, .slice A a.length ca] 24)]; exact blk_alloc (blk_new _ _) _
  have kR : W1.heap[w.heap.size + 1 + 1]? = some (.cells #[.int .i64 0, .slice none 0 0] 24 (0, 0)) := by rw [hW1, ← World.size_alloc w (.cells #[.int .i64 N, .slice A a.length ca] 24), ← World.size_alloc _ (.cells #[.int .i64 N, .slice B b.length cb] 24)]; exact blk_new _ _
  rw [← hW1]
  have HB1 := Aside0.mk hB1
  have KA := Aside0.mk kA
  have KB := Aside0.mk kB
  have KR := Aside0.mk kR
  have HS1 := Aside0.mk hs1
  clear hW1 kA kB kR hs1
  refine (bitset_Right.calls N A ca a true _ (Kd.C_below HRA.out hB1) hca HP1.out).mono ?_
  rintro e w2 ⟨rfl, hb2⟩
  have HB2 := Aside0.mk hb2
  have q0 := fun o => (hb2.cell (p := ⟨w.heap.size + 1, o, none⟩) (show w.heap.size + 1 < W1.heap.size by have := HS1.out; omega)).trans (blk_cell KB.out o)
  have q00 := (q0 0).trans rfl
  have q01 := (q0 1).trans rfl
  clear q0 hb2 hB1
  go_wp2_with fail
  refine (bitset_Right.calls N B cb b true _ (Kd.C_below HRB.out (HB1.out.trans (HB2.out.mono HB1.out.size))) hcb HP2.out).mono ?_
  rintro e w3 ⟨rfl, hb3⟩
  have HB3 := Aside0.mk (HB2.out.trans (hb3.mono HB2.out.size))
  have p00 := ((HB3.out.cell (p := ⟨w.heap.size, 0, none⟩) (show w.heap.size < W1.heap.size by have := HS1.out; omega)).trans (blk_cell KA.out 0)).trans rfl
  have p01 := ((HB3.out.cell (p := ⟨w.heap.size + 1, 0, none⟩) (show w.heap.size + 1 < W1.heap.size by have := HS1.out; omega)).trans (blk_cell KB.out 0)).trans rfl
  clear q00 q01 hb3
  go_wp2_with fail
  refine (bitset_New.calls N _ _ _ _ HNW.out).mono ?_
  rintro e w4 ⟨V, rfl, ho4, hb4⟩
  obtain ⟨A4, c4, rfl, hc4, hr4⟩ := Kd.R_reads ho4
  rw [List.length_replicate] at hc4 hr4 ⊢
  go_wp2_with fail
  have HB4 := Aside0.mk (HB3.out.trans (hb4.mono HB3.out.size))
  obtain ⟨W5, hW5⟩ : ∃ W, W = w4.alloc (.cells #[.int .i64 N, .slice A4 a.length c4] 24) := ⟨_, rfl⟩
  have HK := Aside0.mk (show W5.heap[w.heap.size]? = some (.cells #[.int .i64 N, .slice A a.length ca] 24 (0, 0)) ∧ W5.heap[w.heap.size + 1]? = some (.cells #[.int .i64 N, .slice B b.length cb] 24 (0, 0)) ∧ W5.heap[w.heap.size + 1 + 1]? = some (.cells #[.int .i64 0, .slice none 0 0] 24 (0, 0)) ∧ W5.heap[w4.heap.size]? = some (.cells #[.int .i64 N, .slice A4 a.length c4] 24 (0, 0)) by
    rw [hW5]
    exact ⟨blk_alloc (blk_below KA.out HB4.out) _, blk_alloc (blk_below KB.out HB4.out) _, blk_alloc (blk_below KR.out HB4.out) _, blk_new _ _⟩)
  have HR5 := Aside0.mk (show (Kd.int .u64).R 30 W5 w3.heap.size (fun _ => True) (.slice A4 a.length c4) (List.replicate a.length 0) by rw [hW5]; rw [List.length_replicate] at ho4; exact Kd.R_alloc ho4 _)
  have HB5 := Aside0.mk (show Below w.heap.size w W5 by rw [hW5]; exact below_alloc (HB1.out.trans (HB4.out.mono HB1.out.size)) _)
  have HS5 := Aside0.mk (show w.heap.size + 3 ≤ w3.heap.size ∧ w3.heap.size ≤ w4.heap.size ∧ W5.heap.size = w4.heap.size + 1 by
    have h1 := HB3.out.size
    have h2 := hb4.size
    have h3 := HS1.out
    rw [hW5, World.size_alloc]
    omega)
  have HOB := Aside0.mk (fun k (hk : (Value.slice A4 a.length c4).ownBlock = some k) => show w3.heap.size ≤ k ∧ k < w4.heap.size by
    rw [List.length_replicate] at ho4
    have := (Kd.R_bound ho4).1 k hk
    exact ⟨this.2.1, this.2.2.1⟩)
  rw [← hW5]
  clear hW5 hr4 ho4 hb4 p00 p01
  go_loopg [10, 36] a.length (fun g v10 v36 wx => ∃ i : Nat, i + g = a.length ∧ v36 = .int .i64 (i : Int) ∧ Aside0 ((Kd.int .u64).R 30 wx w3.heap.size (fun _ => True) (.slice A4 a.length c4) ((List.zipWith (Go.bits .or .u64) a b).take i ++ List.replicate g 0)) ∧ Aside0 (W5.grownBy wx (Value.slice A4 a.length c4).ownBlock) ∧ Aside0 (Below w.heap.size w wx))
  case atStart => exact ⟨0, by omega, rfl, HR5, ⟨World.grownBy.refl _ _⟩, HB5⟩
  case round =>
    obtain ⟨i, hig, rfl, HR, HG, HB⟩ := hrel
    have k1 := blk_grown HK.out.1 HG.out (fun e => by have := HOB.out _ e.symm; have := HS5.out; omega)
    have k2 := blk_grown HK.out.2.1 HG.out (fun e => by have := HOB.out _ e.symm; have := HS5.out; omega)
    have k3 := blk_grown HK.out.2.2.1 HG.out (fun e => by have := HOB.out _ e.symm; have := HS5.out; omega)
    have k4 := blk_grown HK.out.2.2.2 HG.out (fun e => by have := HOB.out _ e.symm; have := HS5.out; omega)
    cases gk with
    | zero =>
      have hlt : ¬ (i : Int) < (a.length : Int) := by omega
      have K3 := Aside0.mk k3
      have c40 := (blk_cell k4 0).trans rfl
      have c41 := (blk_cell k4 1).trans rfl
      have c30 := (blk_cell k3 0).trans rfl
      have c31 := (blk_cell k3 1).trans rfl
      have f30 := blk_frozen k3 0
      have f31 := blk_frozen k3 1
      have HR' := Aside0.mk (show (Kd.int .u64).R 30 wr w3.heap.size (fun _ => True) (.slice A4 a.length c4) (List.zipWith (Go.bits .or .u64) a b) by
        have := HR.out
        rw [List.replicate_zero, List.append_nil, List.take_of_length_le (by rw [List.length_zipWith]; omega)] at this
        exact this)
      clear k1 k2 k3 k4 HR
      go_wp2_with fail
      refine bodyPost_ret (results_ct rfl _ _ (w.heap.size + 1 + 1) 24 #[.int .i64 N, .slice A4 a.length c4] (0, 0) _ rfl (blk_put (cs := #[.int .i64 N, .slice none 0 0]) (blk_put K3.out 0 _ rfl) 1 _ rfl) Try.underlying24 rfl (by kernel_rfl)) rfl ⟨_, rfl, ?_, below_set (below_set HB.out (by show w.heap.size ≤ w.heap.size + 1 + 1; omega)) (by show w.heap.size ≤ w.heap.size + 1 + 1; omega)⟩
      exact R_set2 HR'.out (by have := HS5.out; omega) _ _ _ _ (by have := HS5.out; omega)
    | succ g =>
      have hlt : (i : Int) < (a.length : Int) := by omega
      have HOW := Aside0.mk (Kd.own_of_R HR.out)
      obtain ⟨g4, cap, hsl, hbg, hlg⟩ := HOW.out.form (by rw [List.length_append, List.length_take, List.length_replicate, List.length_zipWith]; omega)
      injection hsl with e1 e2 e3
      subst e1 e3
      clear e2
      have hl2 : b.length = a.length := by have := HL.out; omega
      have hi2 : (i : Int) < (b.length : Int) := by omega
      obtain ⟨ada, rfl, hca2⟩ := Kd.at_int (Kd.C_below HRA.out HB.out) (i : Int) (by omega) hlt
      obtain ⟨adb, rfl, hcb2⟩ := Kd.at_int (Kd.C_below HRB.out HB.out) (i : Int) (by omega) hi2
      rw [Int.toNat_natCast] at hca2 hcb2
      have hlen : ((List.zipWith (Go.bits .or .u64) a b).take i ++ List.replicate (g + 1) 0).length = a.length := by rw [List.length_append, List.length_take, List.length_replicate, List.length_zipWith]; omega
      have HOW2 := HOW.out
      rw [hlen] at HOW2
      obtain ⟨hc1, hf1⟩ := own_at HOW2 (i : Int) (by omega) (by omega)
      have hst := own_store HOW2 (i : Int) (Go.bits .or .u64 (rd a (i : Int)) (rd b (i : Int)))
      rw [Int.toNat_natCast] at hc1 hf1 hst
      have HST := Aside0.mk hst
      have c10 := (blk_cell k1 1).trans rfl
      have c20 := (blk_cell k2 1).trans rfl
      have c40 := (blk_cell k4 1).trans rfl
      have HLN := Aside0.mk hlen
      have HL2 := Aside0.mk hl2
      clear k1 k2 k3 k4 HR hst hlen HOW2 hl2
      go_wp2_with fail
      go_still_tail 16, (by kernel_rfl)
      still_call (word44 _ _ _)
      repeat still_step
      refine wpStill_nil ?_
      go_wp2_with fail
      go_roundg g
      case measure => omega
      case rel =>
        refine ⟨i + 1, by omega, rfl, ⟨?_⟩, ⟨?_⟩, ⟨?_⟩⟩
        · have h1 := Kd.R_of_own (h1 := fun _ => rfl) (enc := Value.int .u64) (ok := fun _ => True) (e := 30) (base := w3.heap.size) (v := .slice (some ⟨g4, 0, none⟩) a.length c4) (xs := ((List.zipWith (Go.bits .or .u64) a b).take i ++ List.replicate (g + 1) 0).set i (Go.bits .or .u64 (rd a (i : Int)) (rd b (i : Int)))) (by rw [List.length_set, HLN.out]; exact HST.out.1) (fun _ _ => trivial)
          rw [fill_step _ i g (by rw [List.length_zipWith]; omega) _ (by rw [zip_get _ a b HL2.out.symm i (by omega)]; rfl)] at h1
          exact Kd.R_drew h1
        · exact grown_drew (HG.out.trans HST.out.2)
        · exact below_drew (below_set HB.out (by have := HS5.out; have := HB1.out.size; omega))
set_option maxRecDepth 100000 in
set_option maxHeartbeats 1000000 in
theorem join45 (N M : Int) (A B : Option Addr) (ca cb : Nat) (a b : List Int) (w : World) (hra : Kd.C (Kd.int .u64) w A a.length a) (hca : a.length ≤ ca) (hrb : Kd.C (Kd.int .u64) w B b.length b) (hcb : b.length ≤ cb)
    (ha : Wf a) (hb : Wf b) (hla : a.length ≤ 140737488351232) (hlb : b.length ≤ 140737488351232) (h1 : rightB N a = true) (h2 : rightB N b = true) :
    Calls Try.prog 41 #[.agg #[.int .i64 N, .slice A a.length ca], .agg #[.int .i64 N, .slice B b.length cb], .func (.func 45) #[] #[]] w fun e w' => ∃ v, e = .returned (.tuple #[.agg #[.int .i64 N, v], .int .i64 0]) ∧ (Kd.int .u64).R 30 w' w.heap.size (fun _ => True) v (List.zipWith (Go.bits .andNot .u64) a b) ∧ Below w.heap.size w w' := by
  have HRA := Aside0.mk hra
  have HRB := Aside0.mk hrb
  have HP1 := Aside0.mk ((prog_right N a ha hla).trans (by rw [h1]))
  have HP2 := Aside0.mk ((prog_right N b hb hlb).trans (by rw [h2]))
  have h3 := right_len h1
  have h4 := right_len h2
  have HL := Aside0.mk (And.intro h3 h4)
  have HNW := Aside0.mk (show bitset_New.f N = some (N, List.replicate a.length 0, 0) by rw [prog_new, if_neg (by omega), show ((N + 63) / 64).toNat = a.length by omega])
  have hN0 := h3.1
  have hN1 := h3.2.1
  clear hra hrb h1 h2 h3 h4
  go_enter Try.func41, Try.ntmps41
  go_wp2_with fail
  obtain ⟨W1, hW1⟩ : ∃ W, W = ((w.alloc (.cells #[.int .i64 N, .slice A a.length ca] 24)).alloc (.cells #[.int .i64 N, .slice B b.length cb] 24)).alloc (.cells #[.int .i64 0, .slice none 0 0] 24) := ⟨_, rfl⟩
  have hB1 : Below w.heap.size w W1 := by rw [hW1]; exact below_alloc (below_alloc (below_alloc (Below.refl _ _) _) _) _
  have hs1 : W1.heap.size = w.heap.size + 3 := by rw [hW1]; simp
  have kA : W1.heap[w.heap.size]? = some (.cells #[.int .i64 N, .slice A a.length ca] 24 (0, 0)) := by rw [hW1]; exact blk_alloc (blk_alloc (blk_new w _) _) _
  have kB : W1.heap[w.heap.size + 1]? = some (.cells #[.int .i64 N, .slice B b.length cb] 24 (0, 0)) := by rw [hW1, ← World.size_alloc w (.cells #[.int .i64 N, .slice A a.length ca] 24)]; exact blk_alloc (blk_new _ _) _
  have kR : W1.heap[w.heap.size + 1 + 1]? = some (.cells #[.int .i64 0, .slice none 0 0] 24 (0, 0)) := by rw [hW1, ← World.size_alloc w (.cells #[.int .i64 N, .slice A a.length ca] 24), ← World.size_alloc _ (.cells #[.int .i64 N, .slice B b.length cb] 24)]; exact blk_new _ _
  rw [← hW1]
  have HB1 := Aside0.mk hB1
  have KA := Aside0.mk kA
  have KB := Aside0.mk kB
  have KR := Aside0.mk kR
  have HS1 := Aside0.mk hs1
  clear hW1 kA kB kR hs1
  refine (bitset_Right.calls N A ca a true _ (Kd.C_below HRA.out hB1) hca HP1.out).mono ?_
  rintro e w2 ⟨rfl, hb2⟩
  have HB2 := Aside0.mk hb2
  have q0 := fun o => (hb2.cell (p := ⟨w.heap.size + 1, o, none⟩) (show w.heap.size + 1 < W1.heap.size by have := HS1.out; omega)).trans (blk_cell KB.out o)
  have q00 := (q0 0).trans rfl
  have q01 := (q0 1).trans rfl
  clear q0 hb2 hB1
  go_wp2_with fail
  refine (bitset_Right.calls N B cb b true _ (Kd.C_below HRB.out (HB1.out.trans (HB2.out.mono HB1.out.size))) hcb HP2.out).mono ?_
  rintro e w3 ⟨rfl, hb3⟩
  have HB3 := Aside0.mk (HB2.out.trans (hb3.mono HB2.out.size))
  have p00 := ((HB3.out.cell (p := ⟨w.heap.size, 0, none⟩) (show w.heap.size < W1.heap.size by have := HS1.out; omega)).trans (blk_cell KA.out 0)).trans rfl
  have p01 := ((HB3.out.cell (p := ⟨w.heap.size + 1, 0, none⟩) (show w.heap.size + 1 < W1.heap.size by have := HS1.out; omega)).trans (blk_cell KB.out 0)).trans rfl
  clear q00 q01 hb3
  go_wp2_with fail
  refine (bitset_New.calls N _ _ _ _ HNW.out).mono ?_
  rintro e w4 ⟨V, rfl, ho4, hb4⟩
  obtain ⟨A4, c4, rfl, hc4, hr4⟩ := Kd.R_reads ho4
  rw [List.length_replicate] at hc4 hr4 ⊢
  go_wp2_with fail
  have HB4 := Aside0.mk (HB3.out.trans (hb4.mono HB3.out.size))
  obtain ⟨W5, hW5⟩ : ∃ W, W = w4.alloc (.cells #[.int .i64 N, .slice A4 a.length c4] 24) := ⟨_, rfl⟩
  have HK := Aside0.mk (show W5.heap[w.heap.size]? = some (.cells #[.int .i64 N, .slice A a.length ca] 24 (0, 0)) ∧ W5.heap[w.heap.size + 1]? = some (.cells #[.int .i64 N, .slice B b.length cb] 24 (0, 0)) ∧ W5.heap[w.heap.size + 1 + 1]? = some (.cells #[.int .i64 0, .slice none 0 0] 24 (0, 0)) ∧ W5.heap[w4.heap.size]? = some (.cells #[.int .i64 N, .slice A4 a.length c4] 24 (0, 0)) by
    rw [hW5]
    exact ⟨blk_alloc (blk_below KA.out HB4.out) _, blk_alloc (blk_below KB.out HB4.out) _, blk_alloc (blk_below KR.out HB4.out) _, blk_new _ _⟩)
  have HR5 := Aside0.mk (show (Kd.int .u64).R 30 W5 w3.heap.size (fun _ => True) (.slice A4 a.length c4) (List.replicate a.length 0) by rw [hW5]; rw [List.length_replicate] at ho4; exact Kd.R_alloc ho4 _)
  have HB5 := Aside0.mk (show Below w.heap.size w W5 by rw [hW5]; exact below_alloc (HB1.out.trans (HB4.out.mono HB1.out.size)) _)
  have HS5 := Aside0.mk (show w.heap.size + 3 ≤ w3.heap.size ∧ w3.heap.size ≤ w4.heap.size ∧ W5.heap.size = w4.heap.size + 1 by
    have h1 := HB3.out.size
    have h2 := hb4.size
    have h3 := HS1.out
    rw [hW5, World.size_alloc]
    omega)
  have HOB := Aside0.mk (fun k (hk : (Value.slice A4 a.length c4).ownBlock = some k) => show w3.heap.size ≤ k ∧ k < w4.heap.size by
    rw [List.length_replicate] at ho4
    have := (Kd.R_bound ho4).1 k hk
    exact ⟨this.2.1, this.2.2.1⟩)
  rw [← hW5]
  clear hW5 hr4 ho4 hb4 p00 p01
  go_loopg [10, 36] a.length (fun g v10 v36 wx => ∃ i : Nat, i + g = a.length ∧ v36 = .int .i64 (i : Int) ∧ Aside0 ((Kd.int .u64).R 30 wx w3.heap.size (fun _ => True) (.slice A4 a.length c4) ((List.zipWith (Go.bits .andNot .u64) a b).take i ++ List.replicate g 0)) ∧ Aside0 (W5.grownBy wx (Value.slice A4 a.length c4).ownBlock) ∧ Aside0 (Below w.heap.size w wx))
  case atStart => exact ⟨0, by omega, rfl, HR5, ⟨World.grownBy.refl _ _⟩, HB5⟩
  case round =>
    obtain ⟨i, hig, rfl, HR, HG, HB⟩ := hrel
    have k1 := blk_grown HK.out.1 HG.out (fun e => by have := HOB.out _ e.symm; have := HS5.out; omega)
    have k2 := blk_grown HK.out.2.1 HG.out (fun e => by have := HOB.out _ e.symm; have := HS5.out; omega)
    have k3 := blk_grown HK.out.2.2.1 HG.out (fun e => by have := HOB.out _ e.symm; have := HS5.out; omega)
    have k4 := blk_grown HK.out.2.2.2 HG.out (fun e => by have := HOB.out _ e.symm; have := HS5.out; omega)
    cases gk with
    | zero =>
      have hlt : ¬ (i : Int) < (a.length : Int) := by omega
      have K3 := Aside0.mk k3
      have c40 := (blk_cell k4 0).trans rfl
      have c41 := (blk_cell k4 1).trans rfl
      have c30 := (blk_cell k3 0).trans rfl
      have c31 := (blk_cell k3 1).trans rfl
      have f30 := blk_frozen k3 0
      have f31 := blk_frozen k3 1
      have HR' := Aside0.mk (show (Kd.int .u64).R 30 wr w3.heap.size (fun _ => True) (.slice A4 a.length c4) (List.zipWith (Go.bits .andNot .u64) a b) by
        have := HR.out
        rw [List.replicate_zero, List.append_nil, List.take_of_length_le (by rw [List.length_zipWith]; omega)] at this
        exact this)
      clear k1 k2 k3 k4 HR
      go_wp2_with fail
      refine bodyPost_ret (results_ct rfl _ _ (w.heap.size + 1 + 1) 24 #[.int .i64 N, .slice A4 a.length c4] (0, 0) _ rfl (blk_put (cs := #[.int .i64 N, .slice none 0 0]) (blk_put K3.out 0 _ rfl) 1 _ rfl) Try.underlying24 rfl (by kernel_rfl)) rfl ⟨_, rfl, ?_, below_set (below_set HB.out (by show w.heap.size ≤ w.heap.size + 1 + 1; omega)) (by show w.heap.size ≤ w.heap.size + 1 + 1; omega)⟩
      exact R_set2 HR'.out (by have := HS5.out; omega) _ _ _ _ (by have := HS5.out; omega)
    | succ g =>
      have hlt : (i : Int) < (a.length : Int) := by omega
      have HOW := Aside0.mk (Kd.own_of_R HR.out)
      obtain ⟨g4, cap, hsl, hbg, hlg⟩ := HOW.out.form (by rw [List.length_append, List.length_take, List.length_replicate, List.length_zipWith]; omega)
      injection hsl with e1 e2 e3
      subst e1 e3
      clear e2
      have hl2 : b.length = a.length := by have := HL.out; omega
      have hi2 : (i : Int) < (b.length : Int) := by omega
      obtain ⟨ada, rfl, hca2⟩ := Kd.at_int (Kd.C_below HRA.out HB.out) (i : Int) (by omega) hlt
      obtain ⟨adb, rfl, hcb2⟩ := Kd.at_int (Kd.C_below HRB.out HB.out) (i : Int) (by omega) hi2
      rw [Int.toNat_natCast] at hca2 hcb2
      have hlen : ((List.zipWith (Go.bits .andNot .u64) a b).take i ++ List.replicate (g + 1) 0).length = a.length := by rw [List.length_append, List.length_take, List.length_replicate, List.length_zipWith]; omega
      have HOW2 := HOW.out
      rw [hlen] at HOW2
      obtain ⟨hc1, hf1⟩ := own_at HOW2 (i : Int) (by omega) (by omega)
      have hst := own_store HOW2 (i : Int) (Go.bits .andNot .u64 (rd a (i : Int)) (rd b (i : Int)))
      rw [Int.toNat_natCast] at hc1 hf1 hst
      have HST := Aside0.mk hst
      have c10 := (blk_cell k1 1).trans rfl
      have c20 := (blk_cell k2 1).trans rfl
      have c40 := (blk_cell k4 1).trans rfl
      have HLN := Aside0.mk hlen
      have HL2 := Aside0.mk hl2
      clear k1 k2 k3 k4 HR hst hlen HOW2 hl2
      go_wp2_with fail
      go_still_tail 16, (by kernel_rfl)
      still_call (word45 _ _ _)
      repeat still_step
      refine wpStill_nil ?_
      go_wp2_with fail
      go_roundg g
      case measure => omega
      case rel =>
        refine ⟨i + 1, by omega, rfl, ⟨?_⟩, ⟨?_⟩, ⟨?_⟩⟩
        · have h1 := Kd.R_of_own (h1 := fun _ => rfl) (enc := Value.int .u64) (ok := fun _ => True) (e := 30) (base := w3.heap.size) (v := .slice (some ⟨g4, 0, none⟩) a.length c4) (xs := ((List.zipWith (Go.bits .andNot .u64) a b).take i ++ List.replicate (g + 1) 0).set i (Go.bits .andNot .u64 (rd a (i : Int)) (rd b (i : Int)))) (by rw [List.length_set, HLN.out]; exact HST.out.1) (fun _ _ => trivial)
          rw [fill_step _ i g (by rw [List.length_zipWith]; omega) _ (by rw [zip_get _ a b HL2.out.symm i (by omega)]; rfl)] at h1
          exact Kd.R_drew h1
        · exact grown_drew (HG.out.trans HST.out.2)
        · exact below_drew (below_set HB.out (by have := HS5.out; have := HB1.out.size; omega))

set_option maxRecDepth 100000 in
set_option maxHeartbeats 1000000 in
theorem join_none (F : Value) (N M : Int) (A B : Option Addr) (ca cb : Nat) (a b : List Int) (w : World) (hra : Kd.C (Kd.int .u64) w A a.length a) (hca : a.length ≤ ca) (hrb : Kd.C (Kd.int .u64) w B b.length b) (hcb : b.length ≤ cb)
    (ha : Wf a) (hb : Wf b) (hla : a.length ≤ 140737488351232) (hlb : b.length ≤ 140737488351232) (h : ¬ (rightB N a = true ∧ rightB M b = true ∧ N = M)) :
    Calls Try.prog 41 #[.agg #[.int .i64 N, .slice A a.length ca], .agg #[.int .i64 M, .slice B b.length cb], F] w fun e w' => e = .returned (.tuple #[.agg #[.int .i64 0, .slice none 0 0], .int .i64 1]) ∧ Below w.heap.size w w' := by
  have HRA := Aside0.mk hra
  have HRB := Aside0.mk hrb
  obtain ⟨ra, hr1⟩ : ∃ r, rightB N a = r := ⟨_, rfl⟩
  obtain ⟨rb, hr2⟩ : ∃ r, rightB M b = r := ⟨_, rfl⟩
  have HP1 := Aside0.mk ((prog_right N a ha hla).trans (by rw [hr1]))
  have HP2 := Aside0.mk ((prog_right M b hb hlb).trans (by rw [hr2]))
  rw [hr1, hr2] at h
  clear hra hrb hr1 hr2
  have key : ∀ W1 : World, W1 = ((w.alloc (.cells #[.int .i64 N, .slice A a.length ca] 24)).alloc (.cells #[.int .i64 M, .slice B b.length cb] 24)).alloc (.cells #[.int .i64 0, .slice none 0 0] 24) →
      Below w.heap.size w W1 ∧ W1.heap.size = w.heap.size + 3 ∧ W1.heap[w.heap.size]? = some (.cells #[.int .i64 N, .slice A a.length ca] 24 (0, 0)) ∧ W1.heap[w.heap.size + 1]? = some (.cells #[.int .i64 M, .slice B b.length cb] 24 (0, 0)) ∧ W1.heap[w.heap.size + 1 + 1]? = some (.cells #[.int .i64 0, .slice none 0 0] 24 (0, 0)) := by
    intro W1 hW1
    refine ⟨by rw [hW1]; exact below_alloc (below_alloc (below_alloc (Below.refl _ _) _) _) _, by rw [hW1]; simp, ?_, ?_, ?_⟩
    · rw [hW1]; exact blk_alloc (blk_alloc (blk_new w _) _) _
    · rw [hW1, ← World.size_alloc w (.cells #[.int .i64 N, .slice A a.length ca] 24)]; exact blk_alloc (blk_new _ _) _
    · rw [hW1, ← World.size_alloc w (.cells #[.int .i64 N, .slice A a.length ca] 24), ← World.size_alloc _ (.cells #[.int .i64 M, .slice B b.length cb] 24)]; exact blk_new _ _
  have KEY := Aside0.mk key
  clear key
  cases ra with
  | false =>
    clear h
    go_enter Try.func41, Try.ntmps41
    go_wp2_with fail
    obtain ⟨W1, hW1⟩ : ∃ W, W = ((w.alloc (.cells #[.int .i64 N, .slice A a.length ca] 24)).alloc (.cells #[.int .i64 M, .slice B b.length cb] 24)).alloc (.cells #[.int .i64 0, .slice none 0 0] 24) := ⟨_, rfl⟩
    obtain ⟨hB1, hs1, kA, kB, kR⟩ := KEY.out W1 hW1
    rw [← hW1]
    have HB1 := Aside0.mk hB1
    clear hW1 kA kB
    refine (bitset_Right.calls N A ca a false _ (Kd.C_below HRA.out hB1) hca HP1.out).mono ?_
    rintro e w2 ⟨rfl, hb2⟩
    have k2 := blk_below kR hb2
    have c0 := (blk_cell k2 0).trans rfl
    have c1 := (blk_cell k2 1).trans rfl
    have f0 := blk_frozen k2 0
    have f1 := blk_frozen k2 1
    have K2 := Aside0.mk k2
    have HB2 := Aside0.mk (HB1.out.trans (hb2.mono HB1.out.size))
    clear k2 kR hb2 hB1 hs1
    go_wp2_with fail
    exact bodyPost_ret (results_ct rfl _ _ (w.heap.size + 1 + 1) 24 #[.int .i64 0, .slice none 0 0] (0, 0) _ rfl (blk_put (cs := #[.int .i64 0, .slice none 0 0]) (blk_put K2.out 0 _ rfl) 1 _ rfl) Try.underlying24 rfl (by kernel_rfl)) rfl ⟨rfl, below_set (below_set HB2.out (by show w.heap.size ≤ w.heap.size + 1 + 1; omega)) (by show w.heap.size ≤ w.heap.size + 1 + 1; omega)⟩
  | true =>
    have hpq : rb = false ∨ rb = true ∧ (N == M) = false := by
      cases rb
      · exact .inl rfl
      · exact .inr ⟨rfl, by rw [beq_eq_false_iff_ne]; exact fun e => h ⟨rfl, rfl, e⟩⟩
    clear h
    go_enter Try.func41, Try.ntmps41
    go_wp2_with fail
    obtain ⟨W1, hW1⟩ : ∃ W, W = ((w.alloc (.cells #[.int .i64 N, .slice A a.length ca] 24)).alloc (.cells #[.int .i64 M, .slice B b.length cb] 24)).alloc (.cells #[.int .i64 0, .slice none 0 0] 24) := ⟨_, rfl⟩
    obtain ⟨hB1, hs1, kA, kB, kR⟩ := KEY.out W1 hW1
    rw [← hW1]
    have HB1 := Aside0.mk hB1
    have KA := Aside0.mk kA
    have KB := Aside0.mk kB
    have KR := Aside0.mk kR
    clear hW1
    refine (bitset_Right.calls N A ca a true _ (Kd.C_below HRA.out hB1) hca HP1.out).mono ?_
    rintro e w2 ⟨rfl, hb2⟩
    have k2 := blk_below kB hb2
    have c0 := (blk_cell k2 0).trans rfl
    have c1 := (blk_cell k2 1).trans rfl
    have HB2 := Aside0.mk hb2
    clear k2 kR hb2 hB1 hs1 kA kB
    go_wp2_with fail
    refine (bitset_Right.calls M B cb b rb _ (Kd.C_below HRB.out (HB1.out.trans (HB2.out.mono HB1.out.size))) hcb HP2.out).mono ?_
    rintro e w3 ⟨rfl, hb3⟩
    have HB3 := Aside0.mk (HB2.out.trans (hb3.mono HB2.out.size))
    have HB4 := Aside0.mk (HB1.out.trans (HB3.out.mono HB1.out.size))
    have K3 := Aside0.mk (blk_below KR.out HB3.out)
    have k3 := K3.out
    have c0 := (blk_cell k3 0).trans rfl
    have c1 := (blk_cell k3 1).trans rfl
    have f0 := blk_frozen k3 0
    have f1 := blk_frozen k3 1
    have a0 := (blk_cell (blk_below KA.out HB3.out) 0).trans rfl
    have b0 := (blk_cell (blk_below KB.out HB3.out) 0).trans rfl
    clear k3 hb3
    rcases hpq with rfl | ⟨rfl, hne⟩
    · go_wp2_with fail
      exact bodyPost_ret (results_ct rfl _ _ (w.heap.size + 1 + 1) 24 #[.int .i64 0, .slice none 0 0] (0, 0) _ rfl (blk_put (cs := #[.int .i64 0, .slice none 0 0]) (blk_put K3.out 0 _ rfl) 1 _ rfl) Try.underlying24 rfl (by kernel_rfl)) rfl ⟨rfl, below_set (below_set HB4.out (by show w.heap.size ≤ w.heap.size + 1 + 1; omega)) (by show w.heap.size ≤ w.heap.size + 1 + 1; omega)⟩
    · have hne2 : (N != M) = true := by rw [bne, hne]; rfl
      go_wp2_with fail
      exact bodyPost_ret (results_ct rfl _ _ (w.heap.size + 1 + 1) 24 #[.int .i64 0, .slice none 0 0] (0, 0) _ rfl (blk_put (cs := #[.int .i64 0, .slice none 0 0]) (blk_put K3.out 0 _ rfl) 1 _ rfl) Try.underlying24 rfl (by kernel_rfl)) rfl ⟨rfl, below_set (below_set HB4.out (by show w.heap.size ≤ w.heap.size + 1 + 1; omega)) (by show w.heap.size ≤ w.heap.size + 1 + 1; omega)⟩

end Go.Proofs.Ytdlkcohfgfnkbaa.Bj
