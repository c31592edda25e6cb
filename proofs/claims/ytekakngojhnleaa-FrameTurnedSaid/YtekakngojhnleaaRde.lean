/- FrameDecodes: the document's Decode. -/
import Derived.Test.YtekakngojhnleaaDe
import Derived.Test.YtekakngojhnleaaRb
import Derived.Lib.Bytes
namespace Go.Proofs.Ytekakngojhnleaa.De
set_option linter.unusedSimpArgs false
set_option linter.unusedVariables false
open Go.RowKit Go.Proofs.Ytekakngojhnleaa.Fns Go.Proofs.Ytekakngojhnleaa.Rf Go.Proofs.Ytekakngojhnleaa.Rd Go.Proofs.Ytekakngojhnleaa.Rt Go.Proofs.Ytekakngojhnleaa.Fs Go.Proofs.Ytekakngojhnleaa.Fp Go.Proofs.Ytekakngojhnleaa.En Go.Proofs.Ytekakngojhnleaa.Of Go.Proofs.Ytekakngojhnleaa.Ew Go.Proofs.YtekakngojhnleaaW.PrintWords Go.Proofs.YtekakngojhnleaaW.PrintLast Go.Proofs.YtekakngojhnleaaW.PrintMore

set_option maxRecDepth 100000 in
set_option maxHeartbeats 1000000 in
theorem refdecode_short (A : Option Addr) (c : Nat) (l : List Int) (w : World) (h : l.length < 5) :
    Calls Try.prog 29 #[.slice A l.length c] w fun e w' => e = .returned (.tuple #[.agg zeroV, .int .i64 14]) ∧ Below w.heap.size w w' := by
  have h1 : (l.length : Int) < 5 := by omega
  clear h
  go_enter Try.func29, Try.ntmps29
  go_wp2_with fail
  refine bodyPost_ret (v := .tuple #[.agg zeroV, .int .i64 14]) (ret_cell rfl _ _ w.heap.size 53 zeroV (0, 0) _ rfl rfl (heap_alloc_new w _) rfl) rfl ?_
  exact ⟨rfl, below_alloc (Below.refl _ _) _⟩
set_option maxRecDepth 100000 in
set_option maxHeartbeats 1000000 in
theorem refdecode_two (A : Option Addr) (c : Nat) (l : List Int) (w : World) (hr : Kd.C (Kd.int .u8) w A l.length l) (h : 5 ≤ l.length) (h2 : 1 < rd l 0) :
    Calls Try.prog 29 #[.slice A l.length c] w fun e w' => e = .returned (.tuple #[.agg zeroV, .int .i64 14]) ∧ Below w.heap.size w w' := by
  have h1 : ¬ (l.length : Int) < 5 := by omega
  have hlt : (0 : Int) < (l.length : Int) := by omega
  have hB : Below w.heap.size w (w.alloc (.cells zeroV 53)) := below_alloc (Below.refl _ _) _
  obtain ⟨ad, rfl, hc⟩ := Kd.at_int (Kd.C_below hr hB) 0 (by omega) (by omega)
  change (w.alloc (.cells zeroV 53)).cell? (ad.add 0) = _ at hc
  have h0 : ad.add 0 = ad := by simp [Addr.add]
  rw [h0] at hc
  have H := Aside0.mk hr
  clear h hr
  go_enter Try.func29, Try.ntmps29
  go_wp2_with fail
  refine bodyPost_ret (v := .tuple #[.agg zeroV, .int .i64 14]) (ret_cell rfl _ _ w.heap.size 53 zeroV (0, 0) _ rfl rfl (heap_alloc_new w _) rfl) rfl ?_
  exact ⟨rfl, hB⟩

theorem rByt_bytes (most : Int) (xs : List Int) (hb : ∀ x ∈ xs, 0 ≤ x ∧ x < 256) {x : List Int} {e : Int} {ys : List Int} (h : rByt most xs = (x, e, ys)) : ∀ y ∈ x, 0 ≤ y ∧ y < 256 := by
  unfold rByt at h
  split at h
  · injection h with h1 h2
    subst h1
    intro y hy
    exact absurd hy List.not_mem_nil
  · injection h with h1 h2
    subst h1
    intro y hy
    exact hb y (List.mem_of_mem_drop (List.mem_of_mem_take hy))
theorem rByt_len (most : Int) (xs : List Int) {x : List Int} {e : Int} {ys : List Int} (h : rByt most xs = (x, e, ys)) : x.length ≤ xs.length := by
  unfold rByt at h
  split at h
  · injection h with h1 h2
    subst h1
    exact Nat.zero_le _
  · injection h with h1 h2
    subst h1
    simp
    omega
theorem C_str {w : World} {A : Option Addr} {n c : Nat} {xs : List Int} (h : (Kd.int .u8).C w A n xs) : (convert 30 9 (.slice A n c)).run Try.prog w = .ok (.string (strOfNums xs)) w := by
  exact Kd.C_string Try.underlying30 Try.underlying5 Try.underlying9 h
theorem strOfNums_inj : ∀ {a b : List Int}, (∀ x ∈ a, 0 ≤ x ∧ x < 256) → (∀ x ∈ b, 0 ≤ x ∧ x < 256) → (strOfNums a).toList = (strOfNums b).toList → a = b := by
  intro a b ha hb h
  rw [Lib.strOfNums_toList, Lib.strOfNums_toList] at h
  unfold Lib.bytesOf at h
  induction a generalizing b with
  | nil =>
    cases b with
    | nil => rfl
    | cons y b => simp at h
  | cons x a ih =>
    cases b with
    | nil => simp at h
    | cons y b =>
      simp only [List.map_cons, List.cons.injEq] at h
      obtain ⟨h1, h2⟩ := h
      have hx := ha x List.mem_cons_self
      have hy := hb y List.mem_cons_self
      have h3 := congrArg UInt8.toNat h1
      rw [UInt8.toNat_ofNat', UInt8.toNat_ofNat'] at h3
      have h4 : x = y := by omega
      rw [h4, ih (fun z hz => ha z (List.mem_cons_of_mem _ hz)) (fun z hz => hb z (List.mem_cons_of_mem _ hz)) h2]
theorem frameL_bytes (d : Bool) (s a : Nat) (l : List Int) (hs : s ≤ 1073741824) (ha : a ≤ 1073741824) (hl : l.length ≤ 1048576) (hb : ∀ x ∈ l, 0 ≤ x ∧ x < 256) : ∀ x ∈ frameL d s a l, 0 ≤ x ∧ x < 256 := by
  intro x hx
  unfold frameL at hx
  rcases List.mem_append.1 hx with hx | hx
  · exact head_bytes d s a l hs ha hl hb x hx
  · unfold be4 at hx
    simp only [List.mem_cons, List.not_mem_nil, or_false] at hx
    rcases hx with rfl | rfl | rfl | rfl <;> omega
theorem encF_bytes (x : Fr) (hg : goodFr x) {r : List Int} {E : Int} (h : encF x = (r, E)) : ∀ y ∈ r, 0 ≤ y ∧ y < 256 := by
  obtain ⟨d, s, a, l⟩ := x
  unfold encF at h
  cases hr : rightB d s a l.length with
  | false =>
    rw [hr, if_neg (by decide)] at h
    injection h with h1 h2
    subst h1
    exact fun y hy => absurd hy List.not_mem_nil
  | true =>
    rw [hr, if_pos rfl] at h
    injection h with h1 h2
    subst h1
    obtain ⟨S, B, rfl, rfl, hs, ha, hl⟩ := right_facts hr
    exact frameL_bytes d S B l hs ha hl (good_bytes hg)
theorem u8_wf {x : Int} (h : 0 ≤ x ∧ x < 256) : (Lit.int .u8 x).wf = true := by
  simp only [Lit.wf, Bool.and_eq_true, IntKind.min, IntKind.max, IntKind.bits, IntKind.signed]
  simp
  omega
theorem i64_wf {x : Int} (h : -9223372036854775808 ≤ x ∧ x < 9223372036854775808) : (Lit.int .i64 x).wf = true := by
  simp only [Lit.wf, Bool.and_eq_true, IntKind.min, IntKind.max, IntKind.bits, IntKind.signed]
  simp
  omega
theorem good_of {d : Bool} {s a : Int} {l : List Int} (hs : 0 ≤ s ∧ s ≤ 1073741824) (ha : 0 ≤ a ∧ a ≤ 1073741824) (hb : ∀ x ∈ l, 0 ≤ x ∧ x < 256) (hl : l.length ≤ 140737488351232) : goodFr (d, s, a, l) :=
  ⟨trivial, show (Lit.int .i64 s).wf = true from i64_wf (by omega), show (Lit.int .i64 a).wf = true from i64_wf (by omega), by simpa [reachBytes] using hl, fun y hy => u8_wf (hb y hy)⟩
/-- What the document's Decode tells of bytes that are long enough. -/
def refF (n : Nat) (l : List Int) : Fr × Int :=
  if (rNum 1073741824 ((l.take n).drop 1)).2.1 = 0 ∧ (rNum 1073741824 (rNum 1073741824 ((l.take n).drop 1)).2.2).2.1 = 0 ∧ (rByt 1048576 (rNum 1073741824 (rNum 1073741824 ((l.take n).drop 1)).2.2).2.2).2.1 = 0 ∧
      (rByt 1048576 (rNum 1073741824 (rNum 1073741824 ((l.take n).drop 1)).2.2).2.2).2.2.length = 0 ∧
      encF (rd l 0 == 1, (rNum 1073741824 ((l.take n).drop 1)).1, (rNum 1073741824 (rNum 1073741824 ((l.take n).drop 1)).2.2).1, (rByt 1048576 (rNum 1073741824 (rNum 1073741824 ((l.take n).drop 1)).2.2).2.2).1) = (l, 0) then
    ((rd l 0 == 1, (rNum 1073741824 ((l.take n).drop 1)).1, (rNum 1073741824 (rNum 1073741824 ((l.take n).drop 1)).2.2).1, (rByt 1048576 (rNum 1073741824 (rNum 1073741824 ((l.take n).drop 1)).2.2).2.2).1), 0)
  else ((false, 0, 0, []), 14)

set_option maxRecDepth 100000 in
set_option maxHeartbeats 1000000 in
theorem refdecode_on (A : Option Addr) (c n : Nat) (l : List Int) (w : World) (hr : Kd.C (Kd.int .u8) w A l.length l) (hc : l.length ≤ c) (h : 1 ≤ n) (hn : l.length = n + 4) (hl : l.length ≤ 140737488351232) (hb : ∀ x ∈ l, 0 ≤ x ∧ x < 256) (h2 : ¬ 1 < rd l 0) (F : Fr) (E : Int) (hd : refF n l = (F, E)) :
    Calls Try.prog 29 #[.slice A l.length c] w fun e w' => ∃ V, e = .returned (.tuple #[.agg #[.bool F.1, .int .i64 F.2.1, .int .i64 F.2.2.1, V], .int .i64 E]) ∧ (Kd.int .u8).R 5 w' w.heap.size (fun _ => True) V F.2.2.2 ∧ Below w.heap.size w w' := by
  have hw : wrap64 ((l.length : Int) - 4) = (n : Int) := by unfold wrap64; omega
  have h1 : ¬ (l.length : Int) < 5 := by omega
  have hlt : (0 : Int) < (l.length : Int) := by omega
  have hB : Below w.heap.size w (w.alloc (.cells zeroV 53)) := below_alloc (Below.refl _ _) _
  obtain ⟨ad, rfl, hcell⟩ := Kd.at_int (Kd.C_below hr hB) 0 (by omega) (by omega)
  change (w.alloc (.cells zeroV 53)).cell? (ad.add 0) = _ at hcell
  have h0 : ad.add 0 = ad := by simp [Addr.add]
  rw [h0] at hcell
  have hnl : (l.take n).length = n := by simp; omega
  have hbt : ∀ x ∈ l.take n, 0 ≤ x ∧ x < 256 := fun x hx => hb x (List.mem_of_mem_take hx)
  obtain ⟨sq, e1, a1, ha1, hp1, hf1⟩ := ref_number (l.take n) hbt (by omega) 1 (by omega) 1073741824
  obtain ⟨ak, e2, a2, ha2, hp2, hf2⟩ := ref_number (l.take n) hbt (by omega) a1 ha1 1073741824
  have hq1 := rNum_le _ _ (by decide) hp1
  have hq2 := rNum_le _ _ (by decide) hp2
  have hw1 : IntKind.i64.wrap sq = sq := by rw [IntKind.wrap_i64]; omega
  have hw2 : IntKind.i64.wrap ak = ak := by rw [IntKind.wrap_i64]; omega
  have HQ := Aside0.mk (And.intro hq1 hq2)
  have P1 := Aside0.mk hp1
  have P2 := Aside0.mk hp2
  have HF1 := Aside0.mk hf1
  have HF2 := Aside0.mk hf2
  have HA := Aside0.mk (And.intro ha1 ha2)
  have HBT := Aside0.mk hbt
  have HNL := Aside0.mk hnl
  have HR := Aside0.mk hr
  have HB := Aside0.mk hb
  have HL := Aside0.mk (And.intro hl (And.intro hn h))
  have HB0 := Aside0.mk hB
  have hnc : (n : Int) ≤ (l.length : Int) := by omega
  have hc' : (l.length : Int) ≤ (c : Int) := by omega
  have hcn : (n : Int) ≤ (c : Int) := by omega
  clear h hl hn hr hb hB hq1 hq2 hp1 hp2 hf1 hf2 ha1 ha2 hbt hnl
  go_enter Try.func29, Try.ntmps29
  go_wp2_with fail
  change Calls _ _ _ ((w.alloc (.cells zeroV 53)).alloc (.cells #[.slice (some ad) n c, .int .i64 1] 118)) _
  obtain ⟨W1, hW1⟩ : ∃ W, W = w.alloc (.cells zeroV 53) := ⟨_, rfl⟩
  have hz1 : W1.heap.size = w.heap.size + 1 := by rw [hW1]; simp
  have HRES1 := Aside0.mk (show W1.heap[w.heap.size]? = some (.cells zeroV 53 (0, 0)) by rw [hW1]; exact heap_alloc_new w _)
  rw [← hW1] at hcell HB0 ⊢
  rw [← hz1]
  obtain ⟨g, hg⟩ : ∃ g, g = W1.heap.size := ⟨_, rfl⟩
  rw [← hg]
  obtain ⟨W2, hW2⟩ : ∃ W, W = W1.alloc (.cells #[.slice (some ad) n c, .int .i64 1] 118) := ⟨_, rfl⟩
  rw [← hW2]
  have HZ := Aside0.mk (show w.heap.size < W1.heap.size by omega)
  have HI := Aside0.mk (show IsS118 W1 W2 g (l.take n) 1 by
    refine ⟨some ad, c, ?_, ⟨by omega, by rw [HNL.out]; omega⟩, ?_⟩
    · rw [HNL.out, hW2, hg]; exact heap_alloc_new W1 _
    · exact Kd.C_below (Kd.C_take HR.out (by omega)) HB0.out)
  have HB2 := Aside0.mk (show Below W1.heap.size W1 W2 by rw [hW2]; exact below_alloc (Below.refl _ _) _)
  have HC0 := Aside0.mk hcell
  obtain ⟨bd, e3, a3, ha3, hp3, hf3⟩ := ref_bytes (l.take n) HBT.out (by have := HL.out.1; have := HNL.out; omega) a2 HA.out.2 1048576 (by decide) W1 g
  have P3 := Aside0.mk hp3
  have HA3 := Aside0.mk ha3
  have HF3 := Aside0.mk hf3
  clear hW1 hz1 hcell hg hW2 hp3 ha3 hf3 hnc hcn hc'
  refine (windbreakref09_Reader_Number.calls 32 g (l.take n) 1 _ _ _ _ W1 _ HI.out HB2.out HF1.out).mono ?_
  rintro e w3 ⟨rfl, hI3, hB3, _⟩
  have HI3 := Aside0.mk hI3
  have HB3 := Aside0.mk hB3
  clear hI3 hB3
  go_wp2_with fail
  refine (windbreakref09_Reader_Number.calls 32 g (l.take n) (a1 : Int) _ _ _ _ W1 _ HI3.out HB3.out HF2.out).mono ?_
  rintro e w4 ⟨rfl, hI4, hB4, _⟩
  have HI4 := Aside0.mk hI4
  have HB4 := Aside0.mk hB4
  clear hI4 hB4
  go_wp2_with fail
  refine (HF3.out _ HI4.out HB4.out).mono ?_
  rintro e w7 ⟨v7, rfl, ho7, hI7, hB7, _⟩
  obtain ⟨A7, c7, rfl, hc7, hr7⟩ := Kd.R_reads ho7
  obtain ⟨n7, hn7⟩ : ∃ n7, n7 = bd.length := ⟨_, rfl⟩
  rw [← hn7] at hr7 hc7 ho7 ⊢
  have HO7 := Aside0.mk ho7
  have HI7 := Aside0.mk hI7
  have HB7 := Aside0.mk hB7
  have HN7 := Aside0.mk hn7
  clear ho7 hI7 hB7 hr7 hc7 hn7
  have hcell := (HB7.out.cell (p := ad) (blk_of_cell HC0.out)).trans HC0.out
  go_upto_region 8 with fail
  obtain ⟨W8, hW8⟩ : ∃ W, W = w7.alloc (.cells #[.bool (rd l 0 == 1), .int .i64 sq, .int .i64 ak, .slice A7 n7 c7] 53) := ⟨_, rfl⟩
  rw [← hW8]
  have hs0 : W1.heap.size ≤ w7.heap.size := HB7.out.size
  have HBW := Aside0.mk (show Below w.heap.size w w7 from HB0.out.trans (HB7.out.mono (Nat.le_of_lt HZ.out)))
  have HB8 := Aside0.mk (show Below w.heap.size w W8 by rw [hW8]; exact HBW.out.alloc (Nat.le_trans (Nat.le_of_lt HZ.out) hs0) _)
  have HRES := Aside0.mk (show W8.heap[w.heap.size]? = some (.cells zeroV 53 (0, 0)) by
    rw [hW8, heap_alloc_old _ _ (Nat.lt_of_lt_of_le HZ.out hs0), HB7.out.block _ HZ.out]
    exact HRES1.out)
  have HBOX := Aside0.mk (show W8.heap[w7.heap.size]? = some (.cells #[.bool (rd l 0 == 1), .int .i64 sq, .int .i64 ak, .slice A7 n7 c7] 53 (0, 0)) by rw [hW8]; exact heap_alloc_new w7 _)
  have HI8 := Aside0.mk (show IsS118 W1 W8 g (l.take n) (a3 : Int) by rw [hW8]; exact HI7.out.alloc _)
  have HB81 := Aside0.mk (show Below W1.heap.size W1 W8 by rw [hW8]; exact HB7.out.alloc hs0 _)
  have HO8 := Aside0.mk (show (Kd.int .u8).R 5 W8 w.heap.size (fun _ => True) (.slice A7 n7 c7) bd by rw [hW8]; exact Kd.R_alloc (Kd.R_lower HO7.out (Nat.le_trans (Nat.le_of_lt HZ.out) HB4.out.size)) _)
  have HC8 := Aside0.mk (HB81.out.cell (p := ad) (blk_of_cell HC0.out) |>.trans HC0.out)
  clear hW8 hcell hw1 hw2
  have H := Aside0.mk hd
  clear hd
  have HNE := Aside0.mk (show g ≠ w.heap.size ∧ g ≠ w7.heap.size from ⟨by have := HI4.out.ge; have := HZ.out; omega, by have := HI7.out.lt; omega⟩)
  have HLT := Aside0.mk (ref_left (l.take n) (by have := HL.out; have := HNL.out; omega) a3 HA3.out)
  by_cases c1 : e1 = 0
  case neg =>
    have cb : (e1 != 0) = true := bne_iff_ne.2 c1
    obtain ⟨h1, h2⟩ : F = (false, 0, 0, []) ∧ E = 14 := by have h := H.out; unfold refF at h; rw [P1.out] at h; simp only at h; rw [P2.out] at h; simp only at h; rw [P3.out] at h; simp only at h; rw [if_neg (by exact fun hh => c1 hh.1)] at h; exact ⟨(Prod.mk.inj h).1.symm, (Prod.mk.inj h).2.symm⟩
    subst h1 h2
    go_wp2_with (refine wpList_store_row rfl 53 (.tmp 2) (.tmp 71) rfl w.heap.size zeroV rfl rfl 53 zeroV HRES.out size53 rfl (frame_one _ _ _ _ _ _) ?_)
    refine bodyPost_ret (v := .tuple #[.agg zeroV, .int .i64 14]) (ret_cell rfl _ _ w.heap.size 53 zeroV (0, 0) _ rfl rfl (setRow_heap _ _ zeroV zeroV 53 (0, 0) HRES.out) rfl) rfl ?_
    exact ⟨_, rfl, Kd.R_nil _ _ _ _ _, below_setRow HB8.out (Nat.le_refl _) _⟩
  subst c1
  by_cases c2 : e2 = 0
  case neg =>
    have cb : (e2 != 0) = true := bne_iff_ne.2 c2
    obtain ⟨h1, h2⟩ : F = (false, 0, 0, []) ∧ E = 14 := by have h := H.out; unfold refF at h; rw [P1.out] at h; simp only at h; rw [P2.out] at h; simp only at h; rw [P3.out] at h; simp only at h; rw [if_neg (by exact fun hh => c2 hh.2.1)] at h; exact ⟨(Prod.mk.inj h).1.symm, (Prod.mk.inj h).2.symm⟩
    subst h1 h2
    go_wp2_with (refine wpList_store_row rfl 53 (.tmp 2) (.tmp 71) rfl w.heap.size zeroV rfl rfl 53 zeroV HRES.out size53 rfl (frame_one _ _ _ _ _ _) ?_)
    refine bodyPost_ret (v := .tuple #[.agg zeroV, .int .i64 14]) (ret_cell rfl _ _ w.heap.size 53 zeroV (0, 0) _ rfl rfl (setRow_heap _ _ zeroV zeroV 53 (0, 0) HRES.out) rfl) rfl ?_
    exact ⟨_, rfl, Kd.R_nil _ _ _ _ _, below_setRow HB8.out (Nat.le_refl _) _⟩
  subst c2
  by_cases c3 : e3 = 0
  case neg =>
    have cb : (e3 != 0) = true := bne_iff_ne.2 c3
    obtain ⟨h1, h2⟩ : F = (false, 0, 0, []) ∧ E = 14 := by have h := H.out; unfold refF at h; rw [P1.out] at h; simp only at h; rw [P2.out] at h; simp only at h; rw [P3.out] at h; simp only at h; rw [if_neg (by exact fun hh => c3 hh.2.2.1)] at h; exact ⟨(Prod.mk.inj h).1.symm, (Prod.mk.inj h).2.symm⟩
    subst h1 h2
    go_wp2_with (refine wpList_store_row rfl 53 (.tmp 2) (.tmp 71) rfl w.heap.size zeroV rfl rfl 53 zeroV HRES.out size53 rfl (frame_one _ _ _ _ _ _) ?_)
    refine bodyPost_ret (v := .tuple #[.agg zeroV, .int .i64 14]) (ret_cell rfl _ _ w.heap.size 53 zeroV (0, 0) _ rfl rfl (setRow_heap _ _ zeroV zeroV 53 (0, 0) HRES.out) rfl) rfl ?_
    exact ⟨_, rfl, Kd.R_nil _ _ _ _ _, below_setRow HB8.out (Nat.le_refl _) _⟩
  subst c3
  by_cases c4 : ((l.take n).drop a3).length = 0
  case neg =>
    have cb : ((((l.take n).drop a3).length : Nat) : Int) > 0 := by omega
    obtain ⟨h1, h2⟩ : F = (false, 0, 0, []) ∧ E = 14 := by have h := H.out; unfold refF at h; rw [P1.out] at h; simp only at h; rw [P2.out] at h; simp only at h; rw [P3.out] at h; simp only at h; rw [if_neg (by exact fun hh => c4 hh.2.2.2.1)] at h; exact ⟨(Prod.mk.inj h).1.symm, (Prod.mk.inj h).2.symm⟩
    subst h1 h2
    obtain ⟨N3, hN3⟩ : ∃ N, N = ((l.take n).drop a3).length := ⟨_, rfl⟩
    rw [← hN3] at cb HLT
    clear hN3 c4
    go_wp2_with (first | (go_at_call 70; refine (windbreakref09_Reader_Left.calls g (l.take n) (a3 : Int) _ _ W1 _ HI8.out HB81.out HLT.out).mono ?_; rintro e w9 ⟨rfl, hI9, hB9, hK9⟩; have HB9 := Aside0.mk hB9; have HK9 := Aside0.mk hK9; have HRES9 := Aside0.mk ((hK9.2 _ (blk_lt HRES.out) (Ne.symm HNE.out.1) (by simp)).trans HRES.out); have HBOX9 := Aside0.mk ((hK9.2 _ (blk_lt HBOX.out) (Ne.symm HNE.out.2) (by simp)).trans HBOX.out); clear hI9 hB9 hK9) | (refine wpList_store_row rfl 53 (.tmp 2) (.tmp 71) rfl w.heap.size zeroV rfl rfl 53 zeroV HRES9.out size53 rfl (frame_one _ _ _ _ _ _) ?_))
    refine bodyPost_ret (v := .tuple #[.agg zeroV, .int .i64 14]) (ret_cell rfl _ _ w.heap.size 53 zeroV (0, 0) _ rfl rfl (setRow_heap _ _ zeroV zeroV 53 (0, 0) HRES9.out) rfl) rfl ?_
    exact ⟨_, rfl, Kd.R_nil _ _ _ _ _, below_setRow (HB0.out.trans (HB9.out.mono (Nat.le_of_lt HZ.out))) (Nat.le_refl _) _⟩
  rw [c4] at HLT
  have HG := Aside0.mk (show goodFr (rd l 0 == 1, sq, ak, bd) from good_of HQ.out.1 HQ.out.2 (rByt_bytes _ _ (fun x hx => HBT.out x (List.mem_of_mem_drop hx)) P3.out) (by have h1 := rByt_len _ _ P3.out; have := HL.out; have := HNL.out; rw [List.length_drop] at h1; omega))
  obtain ⟨R2, E2, hE2⟩ : ∃ r e, encF (rd l 0 == 1, sq, ak, bd) = (r, e) := ⟨_, _, rfl⟩
  obtain ⟨k2, hk2⟩ := refencode_all _ HG.out R2 E2 hE2
  have HE2 := Aside0.mk hE2
  have HK2 := Aside0.mk hk2
  clear hE2 hk2
  have hz : ¬ (((0 : Nat) : Int) > 0) := by omega
  go_wp2_with (go_at_call 70; refine (windbreakref09_Reader_Left.calls g (l.take n) (a3 : Int) _ _ W1 _ HI8.out HB81.out HLT.out).mono ?_; rintro e w9 ⟨rfl, hI9, hB9, hK9⟩; have HB9 := Aside0.mk hB9; have HK9 := Aside0.mk hK9; have HRES9 := Aside0.mk ((hK9.2 _ (blk_lt HRES.out) (Ne.symm HNE.out.1) (by simp)).trans HRES.out); have HBOX9 := Aside0.mk ((hK9.2 _ (blk_lt HBOX.out) (Ne.symm HNE.out.2) (by simp)).trans HBOX.out); have q0 := (blk_cell HBOX9.out 0).trans rfl; have q1 := (blk_cell HBOX9.out 1).trans rfl; have q2 := (blk_cell HBOX9.out 2).trans rfl; have q3 := (blk_cell HBOX9.out 3).trans rfl; have HO9 := Aside0.mk (Kd.R_mono (row_kept HO8.out HI8.out hK9) (fun _ _ => trivial) : (Kd.int .u8).R 5 w9 w.heap.size (fun _ => True) (.slice A7 n7 c7) bd); clear hI9 hB9 hK9)
  have hen := windbreakref10_Encode.calls k2 (rd l 0 == 1) sq ak A7 c7 bd R2 E2 w9 (Kd.R_reads' HO9.out).2.2 (by rw [← HN7.out]; exact (Kd.R_reads' HO9.out).2.1) HK2.out
  rw [← HN7.out] at hen
  refine hen.mono ?_
  rintro e w10 ⟨v10, rfl, ho10, hb10⟩
  clear hen q0 q1 q2 q3
  have HB10 := Aside0.mk hb10
  have HBW9 := Aside0.mk (show Below w.heap.size w w9 from HB0.out.trans (HB9.out.mono (Nat.le_of_lt HZ.out)))
  have HBWX := Aside0.mk (show Below w.heap.size w w10 from HBW9.out.trans (hb10.mono HBW9.out.size))
  have HRES10 := Aside0.mk ((hb10.block _ (blk_lt HRES9.out)).trans HRES9.out)
  have HBOX10 := Aside0.mk ((hb10.block _ (blk_lt HBOX9.out)).trans HBOX9.out)
  have HO10 := Aside0.mk (Kd.R_below HO9.out hb10)
  have r1 := as_string ho10 w10 (Below.refl _ _)
  have r2 : (convert 30 9 (.slice (some ad) l.length c)).run Try.prog w10 = .ok (.string (strOfNums l)) w10 := C_str (Kd.C_below HR.out HBWX.out)
  have HRB := Aside0.mk (show ∀ x ∈ R2, 0 ≤ x ∧ x < 256 from encF_bytes _ HG.out HE2.out)
  clear ho10 hb10
  by_cases c5 : E2 = 0
  case neg =>
    have cb : (E2 != 0) = true := bne_iff_ne.2 c5
    obtain ⟨h1, h2⟩ : F = (false, 0, 0, []) ∧ E = 14 := by have h := H.out; unfold refF at h; rw [P1.out] at h; simp only at h; rw [P2.out] at h; simp only at h; rw [P3.out] at h; simp only at h; rw [if_neg (by exact fun hh => c5 (by have h6 := hh.2.2.2.2; rw [HE2.out] at h6; exact (Prod.mk.inj h6).2))] at h; exact ⟨(Prod.mk.inj h).1.symm, (Prod.mk.inj h).2.symm⟩
    subst h1 h2
    go_wp2_with (refine wpList_store_row rfl 53 (.tmp 2) (.tmp 86) rfl w.heap.size zeroV rfl rfl 53 zeroV HRES10.out size53 rfl (frame_one _ _ _ _ _ _) ?_)
    refine bodyPost_ret (v := .tuple #[.agg zeroV, .int .i64 14]) (ret_cell rfl _ _ w.heap.size 53 zeroV (0, 0) _ rfl rfl (setRow_heap _ _ zeroV zeroV 53 (0, 0) HRES10.out) rfl) rfl ?_
    exact ⟨_, rfl, Kd.R_nil _ _ _ _ _, below_setRow HBWX.out (Nat.le_refl _) _⟩
  subst c5
  by_cases c6 : R2 = l
  case neg =>
    have cb : ((strOfNums R2).toList == (strOfNums l).toList) = false := beq_eq_false_iff_ne.2 (fun hh => c6 (strOfNums_inj HRB.out HB.out hh))
    obtain ⟨h1, h2⟩ : F = (false, 0, 0, []) ∧ E = 14 := by have h := H.out; unfold refF at h; rw [P1.out] at h; simp only at h; rw [P2.out] at h; simp only at h; rw [P3.out] at h; simp only at h; rw [if_neg (by exact fun hh => c6 (by have h6 := hh.2.2.2.2; rw [HE2.out] at h6; exact (Prod.mk.inj h6).1))] at h; exact ⟨(Prod.mk.inj h).1.symm, (Prod.mk.inj h).2.symm⟩
    subst h1 h2
    go_wp2_with (refine wpList_store_row rfl 53 (.tmp 2) (.tmp 86) rfl w.heap.size zeroV rfl rfl 53 zeroV HRES10.out size53 rfl (frame_one _ _ _ _ _ _) ?_)
    refine bodyPost_ret (v := .tuple #[.agg zeroV, .int .i64 14]) (ret_cell rfl _ _ w.heap.size 53 zeroV (0, 0) _ rfl rfl (setRow_heap _ _ zeroV zeroV 53 (0, 0) HRES10.out) rfl) rfl ?_
    exact ⟨_, rfl, Kd.R_nil _ _ _ _ _, below_setRow HBWX.out (Nat.le_refl _) _⟩
  obtain ⟨h1, h2⟩ : F = (rd l 0 == 1, sq, ak, bd) ∧ E = 0 := by have h := H.out; unfold refF at h; rw [P1.out] at h; simp only at h; rw [P2.out] at h; simp only at h; rw [P3.out] at h; simp only at h; rw [if_pos (by exact ⟨trivial, trivial, trivial, c4, by rw [HE2.out, c6]⟩)] at h; exact ⟨(Prod.mk.inj h).1.symm, (Prod.mk.inj h).2.symm⟩
  subst h1 h2
  have cq : ((strOfNums R2).toList == (strOfNums l).toList) = true := by rw [c6]; simp
  clear c6
  go_wp2_with (first | (refine wpList_load_row rfl 53 (.tmp 11) rfl w7.heap.size rfl 53 _ (0, 0) _ HBOX10.out Try.underlying53 rfl size53 ?_) | (refine wpList_store_row rfl 53 (.tmp 2) (.tmp 87) rfl w.heap.size #[.bool (rd l 0 == 1), .int .i64 sq, .int .i64 ak, .slice A7 n7 c7] rfl rfl 53 zeroV HRES10.out size53 rfl (frame_one _ _ _ _ _ _) ?_))
  refine bodyPost_ret (v := .tuple #[.agg #[.bool (rd l 0 == 1), .int .i64 sq, .int .i64 ak, .slice A7 n7 c7], .int .i64 0]) (ret_cell rfl _ _ w.heap.size 53 _ (0, 0) _ rfl rfl (setRow_heap _ _ zeroV _ 53 (0, 0) HRES10.out) rfl) rfl ?_
  exact ⟨_, rfl, R_setRow HO10.out HRES10.out (by decide) _, below_setRow HBWX.out (Nat.le_refl _) _⟩
end Go.Proofs.Ytekakngojhnleaa.De
