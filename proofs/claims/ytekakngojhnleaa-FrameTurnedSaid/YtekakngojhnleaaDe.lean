/- Frames: frame.Decode. -/
import Derived.Test.YtekakngojhnleaaEw
import Derived.Test.YtekakngojhnleaaRd2
namespace Go.Proofs.Ytekakngojhnleaa.De
set_option linter.unusedSimpArgs false
set_option linter.unusedVariables false
open Go.RowKit Go.Proofs.Ytekakngojhnleaa.Fns Go.Proofs.Ytekakngojhnleaa.Rd Go.Proofs.Ytekakngojhnleaa.Rt Go.Proofs.Ytekakngojhnleaa.Fs Go.Proofs.Ytekakngojhnleaa.Fp Go.Proofs.Ytekakngojhnleaa.En Go.Proofs.Ytekakngojhnleaa.Of Go.Proofs.YtekakngojhnleaaW.PrintWords Go.Proofs.YtekakngojhnleaaW.PrintLast Go.Proofs.YtekakngojhnleaaW.PrintMore

/-- The number that bytes are, the highest first. -/
def beN : List Int → Nat → Nat
  | [], r => r
  | c :: cs, r => beN cs (r * 256 % 4294967296 + c.toNat)
theorem or_byte (r b : Nat) (hb : b < 256) : bits .or .u32 ((r : Int) * 256 % 4294967296) ((b : Int) % 4294967296) = ((r * 256 % 4294967296 + b : Nat) : Int) := by
  rw [show (b : Int) % 4294967296 = (b : Int) by omega, show (r : Int) * 256 % 4294967296 = ((r * 256 % 4294967296 : Nat) : Int) by omega, u32_or_nat _ _ (by omega) (by omega), nat_join 8 _ _ (by omega) (by omega)]
theorem info53 : (Try.prog.info? 53).map (fun i => (i.zero, i.size)) = some (some (.agg #[.bool false, .int .i64 0, .int .i64 0, .slice none 0 0]), 4) := by kernel_rfl

theorem size53 : (Try.prog.info? 53).map (·.size) = some 4 := by kernel_rfl
abbrev zeroV : Array Value := #[.bool false, .int .i64 0, .int .i64 0, .slice none 0 0]
theorem frame_one (b : Bool) (x y : Int) (A : Option Addr) (n c : Nat) : (#[.bool b, .int .i64 x, .int .i64 y, .slice A n c] : Array Value).all (·.oneCell') = true := by simp [Value.oneCell']
theorem R_setRow {w : World} {base : Nat} {v : Value} {xs : List Int} (h : (Kd.int .u8).R 5 w base (fun _ => True) v xs) {g t : Nat} {cells : Array Value} (hb : w.heap[g]? = some (.cells cells t (0, 0))) (ht : 5 ≠ t) (cs : Array Value) : (Kd.int .u8).R 5 (w.setRow g cs) base (fun _ => True) v xs := by
  have h1 := Kd.R_types h hb (fun q hq => by simp [Kd.int, Kd.scalar] at hq; subst hq; exact ht)
  exact Kd.R_mono (Kd.R_move h1 (fun k hk => setRow_other w g k cs hk.2)) (fun _ _ => trivial)
/-- What a function hands back whose first result lies in a block of its own. -/
theorem ret_cell {fn : Func} {u : Tmp} (h : fn.results = #[.cell 2 53, .tmp u]) (tmps : Array Value) (W : World) (g : Nat) (t : TypeId) (cs : Array Value) (fr : Nat × Nat) (x : Value) (hp : tmps.getD 2 undef = .pointer (some ⟨g, 0, none⟩)) (hx : tmps.getD u undef = x) (hg : W.heap[g]? = some (.cells cs t fr)) (hs : cs.size = 4) :
    (results fn tmps).run Try.prog W = .ok (.tuple #[.agg cs, x]) W := by
  rw [results_cell_tmp h, hp, hx]
  have := run_loadVar_row (P := Try.prog) W g t 53 cs fr _ hg Try.underlying53 rfl (by rw [hs]; exact size53)
  simp [asAddr, Result.andThen, this]

set_option maxRecDepth 100000 in
set_option maxHeartbeats 1000000 in
theorem decode_short (A : Option Addr) (c : Nat) (l : List Int) (w : World) (h : l.length < 5) (hl : l.length < 4611686018427387904) :
    Calls Try.prog 28 #[.slice A l.length c] w fun e w' => e = .returned (.tuple #[.agg zeroV, .int .i64 14]) ∧ Below w.heap.size w w' := by
  have hw : wrap64 ((l.length : Int) - 4) = (l.length : Int) - 4 := by unfold wrap64; omega
  have h1 : (l.length : Int) - 4 < 1 := by omega
  clear h hl
  go_enter Try.func28, Try.ntmps28
  go_wp2_with fail
  exact bodyPost_ret (ret_cell rfl _ _ w.heap.size 53 zeroV (0, 0) _ rfl rfl (heap_alloc_new w _) rfl) rfl ⟨rfl, below_alloc (Below.refl _ _) _⟩
set_option maxRecDepth 100000 in
set_option maxHeartbeats 1000000 in
theorem decode_two (A : Option Addr) (c : Nat) (l : List Int) (w : World) (hr : Kd.C (Kd.int .u8) w A l.length l) (h : 5 ≤ l.length) (hl : l.length < 4611686018427387904) (h2 : 1 < rd l 0) :
    Calls Try.prog 28 #[.slice A l.length c] w fun e w' => e = .returned (.tuple #[.agg zeroV, .int .i64 14]) ∧ Below w.heap.size w w' := by
  have hw : wrap64 ((l.length : Int) - 4) = (l.length : Int) - 4 := by unfold wrap64; omega
  have h1 : ¬ (l.length : Int) - 4 < 1 := by omega
  have hlt : (0 : Int) < (l.length : Int) := by omega
  have hB : Below w.heap.size w (w.alloc (.cells zeroV 53)) := below_alloc (Below.refl _ _) _
  obtain ⟨ad, rfl, hc⟩ := Kd.at_int (Kd.C_below hr hB) 0 (by omega) (by omega)
  change (w.alloc (.cells zeroV 53)).cell? (ad.add 0) = _ at hc
  have h0 : ad.add 0 = ad := by simp [Addr.add]
  rw [h0] at hc
  have H := Aside0.mk hr
  clear h hl hr
  go_enter Try.func28, Try.ntmps28
  go_wp2_with fail
  exact bodyPost_ret (ret_cell rfl _ _ w.heap.size 53 zeroV (0, 0) _ rfl rfl (heap_alloc_new w _) rfl) rfl ⟨rfl, hB⟩

/-- What Decode tells of bytes that are long enough. -/
def decF (n : Nat) (l : List Int) : Fr × Int :=
  if (rNum 1073741824 ((l.take n).drop 1)).2.1 = 0 ∧ (rNum 1073741824 (rNum 1073741824 ((l.take n).drop 1)).2.2).2.1 = 0 ∧ (rByt 1048576 (rNum 1073741824 (rNum 1073741824 ((l.take n).drop 1)).2.2).2.2).2.1 = 0 ∧
      (rByt 1048576 (rNum 1073741824 (rNum 1073741824 ((l.take n).drop 1)).2.2).2.2).2.2.length = 0 ∧ beN (l.drop n) 0 = sumN (l.take n) ∧
      rightB (rd l 0 == 1) (rNum 1073741824 ((l.take n).drop 1)).1 (rNum 1073741824 (rNum 1073741824 ((l.take n).drop 1)).2.2).1 (rByt 1048576 (rNum 1073741824 (rNum 1073741824 ((l.take n).drop 1)).2.2).2.2).1.length = true then
    ((rd l 0 == 1, (rNum 1073741824 ((l.take n).drop 1)).1, (rNum 1073741824 (rNum 1073741824 ((l.take n).drop 1)).2.2).1, (rByt 1048576 (rNum 1073741824 (rNum 1073741824 ((l.take n).drop 1)).2.2).2.2).1), 0)
  else ((false, 0, 0, []), 14)
theorem blk_of_cell {w : World} {a : Addr} {v : Value} (h : w.cell? a = some v) : a.block < w.heap.size := block_lt_of_cell h
theorem rNum_len (most : Int) (xs : List Int) {x e : Int} {ys : List Int} (h : rNum most xs = (x, e, ys)) : ys.length ≤ xs.length := by
  unfold rNum at h
  split at h
  · injection h with h1 h2
    injection h2 with h2 h3
    subst h3
    exact Nat.le_refl _
  · injection h with h1 h2
    injection h2 with h2 h3
    subst h3
    simp
theorem rNum_le (most : Int) (xs : List Int) (hm : 0 ≤ most) {x e : Int} {ys : List Int} (h : rNum most xs = (x, e, ys)) : 0 ≤ x ∧ x ≤ most := by
  have hr := nx_range xs 0 0
  unfold rNum at h
  split at h
  · injection h with h1 h2
    subst h1
    omega
  · rename_i hc
    injection h with h1 h2
    subst h1
    omega
set_option maxRecDepth 100000 in
set_option maxHeartbeats 1000000 in
theorem decode_on (A : Option Addr) (c n : Nat) (l : List Int) (w : World) (hr : Kd.C (Kd.int .u8) w A l.length l) (hc : l.length ≤ c) (h : 1 ≤ n) (hn : l.length = n + 4) (hl : l.length ≤ 140737488351232) (hb : ∀ x ∈ l, 0 ≤ x ∧ x < 256) (h2 : ¬ 1 < rd l 0) (F : Fr) (E : Int) (hd : decF n l = (F, E)) :
    Calls Try.prog 28 #[.slice A l.length c] w fun e w' => ∃ V, e = .returned (.tuple #[.agg #[.bool F.1, .int .i64 F.2.1, .int .i64 F.2.2.1, V], .int .i64 E]) ∧ (Kd.int .u8).R 5 w' w.heap.size (fun _ => True) V F.2.2.2 ∧ Below w.heap.size w w' := by
  have hw : wrap64 ((l.length : Int) - 4) = (n : Int) := by unfold wrap64; omega
  have h1 : ¬ (n : Int) < 1 := by omega
  have hlt : (0 : Int) < (l.length : Int) := by omega
  have hB : Below w.heap.size w (w.alloc (.cells zeroV 53)) := below_alloc (Below.refl _ _) _
  obtain ⟨ad, rfl, hcell⟩ := Kd.at_int (Kd.C_below hr hB) 0 (by omega) (by omega)
  change (w.alloc (.cells zeroV 53)).cell? (ad.add 0) = _ at hcell
  have h0 : ad.add 0 = ad := by simp [Addr.add]
  rw [h0] at hcell
  have HR := Aside0.mk hr
  have HB := Aside0.mk hb
  have HL := Aside0.mk (And.intro hl (And.intro hn h))
  have HB0 := Aside0.mk hB
  obtain ⟨sq, e1, X1, hp1⟩ : ∃ x e ys, rNum 1073741824 ((l.take n).drop 1) = (x, e, ys) := ⟨_, _, _, rfl⟩
  obtain ⟨ak, e2, X2, hp2⟩ : ∃ x e ys, rNum 1073741824 X1 = (x, e, ys) := ⟨_, _, _, rfl⟩
  obtain ⟨bd, e3, X3, hp3⟩ : ∃ x e ys, rByt 1048576 X2 = (x, e, ys) := ⟨_, _, _, rfl⟩
  have P1 := Aside0.mk hp1
  have P2 := Aside0.mk hp2
  have P3 := Aside0.mk hp3
  have HX2 := Aside0.mk (show X2.length ≤ 140737488355328 by
    have h1 := rNum_len _ _ hp1
    have h2 := rNum_len _ _ hp2
    have h3 : ((l.take n).drop 1).length ≤ l.length := by simp; omega
    omega)
  have hq1 := rNum_le _ _ (by decide) hp1
  have hq2 := rNum_le _ _ (by decide) hp2
  have hw1 : IntKind.i64.wrap sq = sq := by rw [IntKind.wrap_i64]; omega
  have hw2 : IntKind.i64.wrap ak = ak := by rw [IntKind.wrap_i64]; omega
  clear hp1 hp2 hp3 hq1 hq2
  have hcn : ¬ c = n := by omega
  have hnc : (n : Int) ≤ (l.length : Int) := by omega
  have hc' : (l.length : Int) ≤ (c : Int) := by omega
  have hsub : l.length - n = 4 := by omega
  clear h hl hn hr hb hB
  go_enter Try.func28, Try.ntmps28
  go_wp2_with fail
  change Code.wp _ _ _ _ (w.alloc (.cells zeroV 53))
  obtain ⟨W1, hW1⟩ : ∃ W, W = w.alloc (.cells zeroV 53) := ⟨_, rfl⟩
  have HW1 := Aside0.mk hW1
  rw [← hW1] at hcell HB0 ⊢
  clear hW1
  obtain ⟨told, htold⟩ : ∃ t, t = beN (l.drop n) 0 := ⟨_, rfl⟩
  have HT := Aside0.mk htold
  clear htold
  go_loopg [5, 32] 4 (fun g v5 v32 wx => ∃ (i r : Nat), i + g = 4 ∧ v5 = .int .u32 (r : Int) ∧ v32 = .int .i64 (i : Int) ∧ Aside0 (r < 4294967296) ∧ Aside0 (beN (l.drop (n + i)) r = told) ∧ wx = W1)
  case atStart => exact ⟨0, 0, by omega, rfl, rfl, ⟨by omega⟩, ⟨HT.out.symm⟩, rfl⟩
  case round =>
    obtain ⟨i, r, hig, rfl, rfl, hrl, hbe, rfl⟩ := hrel
    cases gk with
    | zero =>
      obtain rfl : i = 4 := by omega
      have hrt : r = told := by
        have h1 := hbe.out
        rw [List.drop_of_length_le (by have := HL.out.2.1; omega)] at h1
        exact h1
      subst hrt
      go_wp2_with fail
      have HX := Aside0.mk (show (Kd.int .u8).C wr (some ⟨ad.block, ad.off + 1, none⟩) (n - 1) ((l.take n).drop 1) by
        have h1 := Rd.mid_on HR.out (lo := 1) (hi := n) HL.out.2.2 (by have := HL.out.2.1; omega) hc (by have := HL.out.2.1; omega)
        have h2 : ((l.take n).drop 1).length = n - 1 := by have := HL.out.2.1; simp; omega
        rw [h2] at h1
        exact Kd.C_below h1 HB0.out)
      refine (new_calls' _ (n - 1) (c - 1) _ _ HX.out (by simp; have := HL.out; omega)).mono ?_
      rintro e w4 ⟨g, w0, rfl, hI, hB0, hBw, hB4⟩
      have HI := Aside0.mk hI
      have HB4 := Aside0.mk hB0
      have HBW := Aside0.mk (HB0.out.trans (hBw.mono HB0.out.size))
      have HZ := Aside0.mk (show w.heap.size < w0.heap.size from Nat.lt_of_lt_of_le (by rw [HW1.out]; simp) hBw.size)
      have HC0 := Aside0.mk ((hBw.cell (p := ad) (blk_of_cell hcell)).trans hcell)
      have HRW := Aside0.mk hBw
      clear hI hB0 hBw hB4 hcell hcn hnc hc' hsub hw h1 HX
      go_wp2_with fail
      refine (rnumber_calls g _ w0 _ HI.out HB4.out _ _ _ _ P1.out).mono ?_
      rintro e w5 ⟨rfl, hI5, hB5, _⟩
      have HI5 := Aside0.mk hI5
      have HB5 := Aside0.mk hB5
      clear hI5 hB5
      go_wp2_with fail
      refine (rnumber_calls g _ w0 _ HI5.out HB5.out _ _ _ _ P2.out).mono ?_
      rintro e w6 ⟨rfl, hI6, hB6, _⟩
      have HI6 := Aside0.mk hI6
      have HB6 := Aside0.mk hB6
      clear hI6 hB6
      go_wp2_with fail
      refine (rbytes_calls g _ w0 _ HI6.out HB6.out _ HX2.out (by decide) _ _ _ P3.out).mono ?_
      rintro e w7 ⟨v7, rfl, ho7, hI7, hB7, _⟩
      obtain ⟨A7, c7, rfl, hc7, hr7⟩ := Kd.R_reads ho7
      obtain ⟨n7, hn7⟩ : ∃ n7, n7 = bd.length := ⟨_, rfl⟩
      rw [← hn7] at hr7 hc7 ho7 ⊢
      have HO7 := Aside0.mk ho7
      have HI7 := Aside0.mk hI7
      have HB7 := Aside0.mk hB7
      have HN7 := Aside0.mk hn7
      clear ho7 hI7 hB7 hr7 hc7 hn7
      have hcell := (HB7.out.cell (p := ad) (blk_of_cell HC0.out)).trans HC0.out
      go_upto_region 15 with fail
      obtain ⟨W8, hW8⟩ : ∃ W, W = w7.alloc (.cells #[.bool (rd l 0 == 1), .int .i64 sq, .int .i64 ak, .slice A7 n7 c7] 53) := ⟨_, rfl⟩
      rw [← hW8]
      have hs0 : w0.heap.size ≤ w7.heap.size := HB7.out.size
      have HB8 := Aside0.mk (show Below w.heap.size w W8 by rw [hW8]; exact (HBW.out.trans (HB7.out.mono (Nat.le_of_lt HZ.out))).alloc (Nat.le_trans (Nat.le_of_lt HZ.out) hs0) _)
      have HRES := Aside0.mk (show W8.heap[w.heap.size]? = some (.cells zeroV 53 (0, 0)) by
        rw [hW8, heap_alloc_old _ _ (Nat.lt_of_lt_of_le HZ.out hs0), HB7.out.block _ HZ.out, HRW.out.block _ (by rw [HW1.out]; simp), HW1.out]
        exact heap_alloc_new w _)
      have HBOX := Aside0.mk (show W8.heap[w7.heap.size]? = some (.cells #[.bool (rd l 0 == 1), .int .i64 sq, .int .i64 ak, .slice A7 n7 c7] 53 (0, 0)) by rw [hW8]; exact heap_alloc_new w7 _)
      have HI8 := Aside0.mk (HI7.out.same (W' := W8) (by rw [hW8]; exact heap_alloc_old _ _ HI7.out.lt))
      have HO8 := Aside0.mk (show (Kd.int .u8).R 5 W8 w.heap.size (fun _ => True) (.slice A7 n7 c7) bd by rw [hW8]; exact Kd.R_alloc (Kd.R_lower HO7.out (Nat.le_trans (Nat.le_of_lt HZ.out) HB6.out.size)) _)
      clear hW8 hcell hw1 hw2
      have H := Aside0.mk hd
      clear hd
      by_cases c1 : e1 = 0
      case neg =>
        have cb : (e1 != 0) = true := bne_iff_ne.2 c1
        obtain ⟨h1, h2⟩ : F = (false, 0, 0, []) ∧ E = 14 := by have h := H.out; unfold decF at h; rw [P1.out] at h; simp only at h; rw [P2.out] at h; simp only at h; rw [P3.out] at h; simp only at h; rw [if_neg (by exact fun hh => c1 hh.1)] at h; exact ⟨(Prod.mk.inj h).1.symm, (Prod.mk.inj h).2.symm⟩
        subst h1 h2
        go_wp2_with (refine wpList_store_row rfl 53 (.tmp 2) (.tmp 99) rfl w.heap.size zeroV rfl rfl 53 zeroV HRES.out size53 rfl (frame_one _ _ _ _ _ _) ?_)
        refine bodyPost_ret (v := .tuple #[.agg zeroV, .int .i64 14]) (ret_cell rfl _ _ w.heap.size 53 zeroV (0, 0) _ rfl rfl (setRow_heap _ _ zeroV zeroV 53 (0, 0) HRES.out) rfl) rfl ?_
        exact ⟨_, rfl, Kd.R_nil _ _ _ _ _, below_setRow HB8.out (Nat.le_refl _) _⟩
      subst c1
      by_cases c2 : e2 = 0
      case neg =>
        have cb : (e2 != 0) = true := bne_iff_ne.2 c2
        obtain ⟨h1, h2⟩ : F = (false, 0, 0, []) ∧ E = 14 := by have h := H.out; unfold decF at h; rw [P1.out] at h; simp only at h; rw [P2.out] at h; simp only at h; rw [P3.out] at h; simp only at h; rw [if_neg (by exact fun hh => c2 hh.2.1)] at h; exact ⟨(Prod.mk.inj h).1.symm, (Prod.mk.inj h).2.symm⟩
        subst h1 h2
        go_wp2_with (refine wpList_store_row rfl 53 (.tmp 2) (.tmp 99) rfl w.heap.size zeroV rfl rfl 53 zeroV HRES.out size53 rfl (frame_one _ _ _ _ _ _) ?_)
        refine bodyPost_ret (v := .tuple #[.agg zeroV, .int .i64 14]) (ret_cell rfl _ _ w.heap.size 53 zeroV (0, 0) _ rfl rfl (setRow_heap _ _ zeroV zeroV 53 (0, 0) HRES.out) rfl) rfl ?_
        exact ⟨_, rfl, Kd.R_nil _ _ _ _ _, below_setRow HB8.out (Nat.le_refl _) _⟩
      subst c2
      by_cases c3 : e3 = 0
      case neg =>
        have cb : (e3 != 0) = true := bne_iff_ne.2 c3
        obtain ⟨h1, h2⟩ : F = (false, 0, 0, []) ∧ E = 14 := by have h := H.out; unfold decF at h; rw [P1.out] at h; simp only at h; rw [P2.out] at h; simp only at h; rw [P3.out] at h; simp only at h; rw [if_neg (by exact fun hh => c3 hh.2.2.1)] at h; exact ⟨(Prod.mk.inj h).1.symm, (Prod.mk.inj h).2.symm⟩
        subst h1 h2
        go_wp2_with (refine wpList_store_row rfl 53 (.tmp 2) (.tmp 99) rfl w.heap.size zeroV rfl rfl 53 zeroV HRES.out size53 rfl (frame_one _ _ _ _ _ _) ?_)
        refine bodyPost_ret (v := .tuple #[.agg zeroV, .int .i64 14]) (ret_cell rfl _ _ w.heap.size 53 zeroV (0, 0) _ rfl rfl (setRow_heap _ _ zeroV zeroV 53 (0, 0) HRES.out) rfl) rfl ?_
        exact ⟨_, rfl, Kd.R_nil _ _ _ _ _, below_setRow HB8.out (Nat.le_refl _) _⟩
      subst c3
      by_cases c4 : X3.length = 0
      case neg =>
        have cb : ((X3.length : Int) > 0) := by omega
        obtain ⟨h1, h2⟩ : F = (false, 0, 0, []) ∧ E = 14 := by have h := H.out; unfold decF at h; rw [P1.out] at h; simp only at h; rw [P2.out] at h; simp only at h; rw [P3.out] at h; simp only at h; rw [if_neg (by exact fun hh => c4 hh.2.2.2.1)] at h; exact ⟨(Prod.mk.inj h).1.symm, (Prod.mk.inj h).2.symm⟩
        subst h1 h2
        go_wp2_with (first | (go_at_call 62; refine (left_calls g X3 w0 _ HI8.out).mono ?_; rintro e w9 ⟨rfl, rfl⟩) | (refine wpList_store_row rfl 53 (.tmp 2) (.tmp 99) rfl w.heap.size zeroV rfl rfl 53 zeroV HRES.out size53 rfl (frame_one _ _ _ _ _ _) ?_))
        refine bodyPost_ret (v := .tuple #[.agg zeroV, .int .i64 14]) (ret_cell rfl _ _ w.heap.size 53 zeroV (0, 0) _ rfl rfl (setRow_heap _ _ zeroV zeroV 53 (0, 0) HRES.out) rfl) rfl ?_
        exact ⟨_, rfl, Kd.R_nil _ _ _ _ _, below_setRow HB8.out (Nat.le_refl _) _⟩
      have cl : ¬ ((X3.length : Int) > 0) := by omega
      have HTK := Aside0.mk (show (Kd.int .u8).C W8 (some ad) n (l.take n) by
        have h1 := Kd.C_take HR.out (m := n) (by have := HL.out.2.1; omega)
        have h2 : (l.take n).length = n := by have := HL.out.2.1; simp; omega
        rw [h2] at h1
        exact Kd.C_below h1 HB8.out)
      have HTL := Aside0.mk (show (l.take n).length < 9223372036854775807 by have := HL.out; simp; omega)
      have HTB := Aside0.mk (show ∀ x ∈ l.take n, 0 ≤ x ∧ x < 256 from fun x hx => HB.out x (List.mem_of_mem_take hx))
      obtain ⟨S, hS⟩ : ∃ S : Nat, S = 4294967295 ^^^ crc (l.take n) 4294967295 := ⟨_, rfl⟩
      have HSU := Aside0.mk hS
      clear hS
      have hnc : (n : Int) ≤ (l.length : Int) := by have := HL.out.2.1; omega
      have hnc2 : (n : Int) ≤ (c : Int) := by have := HL.out.2.1; omega
      by_cases c5 : r = S
      case neg =>
        have cb : ((r : Int) != (S : Int)) = true := bne_iff_ne.2 (by omega)
        obtain ⟨h1, h2⟩ : F = (false, 0, 0, []) ∧ E = 14 := by have h := H.out; unfold decF at h; rw [P1.out] at h; simp only at h; rw [P2.out] at h; simp only at h; rw [P3.out] at h; simp only at h; rw [if_neg (by exact fun hh => c5 (HT.out.trans (hh.2.2.2.2.1.trans HSU.out.symm)))] at h; exact ⟨(Prod.mk.inj h).1.symm, (Prod.mk.inj h).2.symm⟩
        subst h1 h2
        go_wp2_with (first | (go_at_call 62; refine (left_calls g X3 w0 _ HI8.out).mono ?_; rintro e w9 ⟨rfl, rfl⟩) | (go_at_call 16; refine (sum_calls' (some ad) n c (l.take n) _ HTK.out HTL.out HTB.out).mono ?_; rintro e w9 ⟨rfl, hb9⟩; have HB9 := Aside0.mk hb9; have HRES9 := Aside0.mk ((hb9.block _ (blk_lt HRES.out)).trans HRES.out); have HBOX9 := Aside0.mk ((hb9.block _ (blk_lt HBOX.out)).trans HBOX.out); have q0 := (blk_cell HBOX9.out 0).trans rfl; have q1 := (blk_cell HBOX9.out 1).trans rfl; have q2 := (blk_cell HBOX9.out 2).trans rfl; have q3 := (blk_cell HBOX9.out 3).trans rfl; rw [← HSU.out]; clear hb9) | (refine wpList_store_row rfl 53 (.tmp 2) (.tmp 99) rfl w.heap.size zeroV rfl rfl 53 zeroV HRES9.out size53 rfl (frame_one _ _ _ _ _ _) ?_))
        refine bodyPost_ret (v := .tuple #[.agg zeroV, .int .i64 14]) (ret_cell rfl _ _ w.heap.size 53 zeroV (0, 0) _ rfl rfl (setRow_heap _ _ zeroV zeroV 53 (0, 0) HRES9.out) rfl) rfl ?_
        exact ⟨_, rfl, Kd.R_nil _ _ _ _ _, below_setRow (HB8.out.trans (HB9.out.mono HB8.out.size)) (Nat.le_refl _) _⟩
      have cq : ((r : Int) != (S : Int)) = false := by rw [c5]; simp
      have HN8 := Aside0.mk HN7.out
      cases c6 : rightB (rd l 0 == 1) sq ak n7 with
      | false =>
        have HRT := Aside0.mk c6
        obtain ⟨h1, h2⟩ : F = (false, 0, 0, []) ∧ E = 14 := by have h := H.out; unfold decF at h; rw [P1.out] at h; simp only at h; rw [P2.out] at h; simp only at h; rw [P3.out] at h; simp only at h; rw [if_neg (by exact fun hh => by have h6 := hh.2.2.2.2.2; rw [← HN7.out, HRT.out] at h6; exact Bool.noConfusion h6)] at h; exact ⟨(Prod.mk.inj h).1.symm, (Prod.mk.inj h).2.symm⟩
        subst h1 h2
        clear c6
        go_wp2_with (first | (go_at_call 62; refine (left_calls g X3 w0 _ HI8.out).mono ?_; rintro e w9 ⟨rfl, rfl⟩) | (go_at_call 16; refine (sum_calls' (some ad) n c (l.take n) _ HTK.out HTL.out HTB.out).mono ?_; rintro e w9 ⟨rfl, hb9⟩; have HB9 := Aside0.mk hb9; have HRES9 := Aside0.mk ((hb9.block _ (blk_lt HRES.out)).trans HRES.out); have HBOX9 := Aside0.mk ((hb9.block _ (blk_lt HBOX.out)).trans HBOX.out); have q0 := (blk_cell HBOX9.out 0).trans rfl; have q1 := (blk_cell HBOX9.out 1).trans rfl; have q2 := (blk_cell HBOX9.out 2).trans rfl; have q3 := (blk_cell HBOX9.out 3).trans rfl; rw [← HSU.out]; clear hb9) | (go_at_call 65; refine (right_is (rd l 0 == 1) sq ak A7 n7 c7 _ false HRT.out).mono ?_; rintro e w10 ⟨rfl, hw10⟩; have HB10 := Aside0.mk (show Below w9.heap.size w9 w10 by rw [hw10]; exact below_alloc (Below.refl _ _) _); clear hw10; have HRES10 := Aside0.mk ((HB10.out.block _ (blk_lt HRES9.out)).trans HRES9.out); have HBOX10 := Aside0.mk ((HB10.out.block _ (blk_lt HBOX9.out)).trans HBOX9.out)) | (refine wpList_store_row rfl 53 (.tmp 2) (.tmp 99) rfl w.heap.size zeroV rfl rfl 53 zeroV HRES10.out size53 rfl (frame_one _ _ _ _ _ _) ?_))
        refine bodyPost_ret (v := .tuple #[.agg zeroV, .int .i64 14]) (ret_cell rfl _ _ w.heap.size 53 zeroV (0, 0) _ rfl rfl (setRow_heap _ _ zeroV zeroV 53 (0, 0) HRES10.out) rfl) rfl ?_
        exact ⟨_, rfl, Kd.R_nil _ _ _ _ _, below_setRow ((HB8.out.trans (HB9.out.mono HB8.out.size)).trans (HB10.out.mono (Nat.le_trans HB8.out.size HB9.out.size))) (Nat.le_refl _) _⟩
      | true =>
        have HRT := Aside0.mk c6
        obtain ⟨h1, h2⟩ : F = (rd l 0 == 1, sq, ak, bd) ∧ E = 0 := by have h := H.out; unfold decF at h; rw [P1.out] at h; simp only at h; rw [P2.out] at h; simp only at h; rw [P3.out] at h; simp only at h; rw [if_pos (by exact ⟨trivial, trivial, trivial, c4, HT.out.symm.trans (c5.trans HSU.out), by rw [← HN7.out]; exact HRT.out⟩)] at h; exact ⟨(Prod.mk.inj h).1.symm, (Prod.mk.inj h).2.symm⟩
        subst h1 h2
        clear c6
        go_wp2_with (first | (go_at_call 62; refine (left_calls g X3 w0 _ HI8.out).mono ?_; rintro e w9 ⟨rfl, rfl⟩) | (go_at_call 16; refine (sum_calls' (some ad) n c (l.take n) _ HTK.out HTL.out HTB.out).mono ?_; rintro e w9 ⟨rfl, hb9⟩; have HB9 := Aside0.mk hb9; have HRES9 := Aside0.mk ((hb9.block _ (blk_lt HRES.out)).trans HRES.out); have HBOX9 := Aside0.mk ((hb9.block _ (blk_lt HBOX.out)).trans HBOX.out); have q0 := (blk_cell HBOX9.out 0).trans rfl; have q1 := (blk_cell HBOX9.out 1).trans rfl; have q2 := (blk_cell HBOX9.out 2).trans rfl; have q3 := (blk_cell HBOX9.out 3).trans rfl; rw [← HSU.out]; clear hb9) | (go_at_call 65; refine (right_is (rd l 0 == 1) sq ak A7 n7 c7 _ true HRT.out).mono ?_; rintro e w10 ⟨rfl, hw10⟩; have HB10 := Aside0.mk (show Below w9.heap.size w9 w10 by rw [hw10]; exact below_alloc (Below.refl _ _) _); clear hw10; have HRES10 := Aside0.mk ((HB10.out.block _ (blk_lt HRES9.out)).trans HRES9.out); have HBOX10 := Aside0.mk ((HB10.out.block _ (blk_lt HBOX9.out)).trans HBOX9.out)) | (refine wpList_load_row rfl 53 (.tmp 15) rfl w7.heap.size rfl 53 _ (0, 0) _ HBOX10.out Try.underlying53 rfl size53 ?_) | (refine wpList_store_row rfl 53 (.tmp 2) (.tmp 100) rfl w.heap.size #[.bool (rd l 0 == 1), .int .i64 sq, .int .i64 ak, .slice A7 n7 c7] rfl rfl 53 zeroV HRES10.out size53 rfl (frame_one _ _ _ _ _ _) ?_))
        refine bodyPost_ret (v := .tuple #[.agg #[.bool (rd l 0 == 1), .int .i64 sq, .int .i64 ak, .slice A7 n7 c7], .int .i64 0]) (ret_cell rfl _ _ w.heap.size 53 _ (0, 0) _ rfl rfl (setRow_heap _ _ zeroV _ 53 (0, 0) HRES10.out) rfl) rfl ?_
        exact ⟨_, rfl, R_setRow (Kd.R_below (Kd.R_below HO8.out HB9.out) HB10.out) HRES10.out (by decide) _, below_setRow ((HB8.out.trans (HB9.out.mono HB8.out.size)).trans (HB10.out.mono (Nat.le_trans HB8.out.size HB9.out.size))) (Nat.le_refl _) _⟩
    | succ g =>
      have hi : (i : Int) < 4 := by omega
      obtain ⟨ad', he, hx⟩ := Kd.at_int (Kd.C_below HR.out HB0.out) ((n + i : Nat) : Int) (by omega) (by have := HL.out.2.1; omega)
      injection he with he
      subst he
      rw [Int.toNat_natCast, ← Opn.add_add] at hx
      have hil : n + i < l.length := by have := HL.out.2.1; omega
      have hb := HB.out _ (Fs.rd_mem l (n + i) hil)
      have hd := Fs.rd_drop l (n + i) hil
      obtain ⟨b, hbb⟩ : ∃ b : Nat, rd l ((n + i : Nat) : Int) = (b : Int) := ⟨(rd l ((n + i : Nat) : Int)).toNat, by omega⟩
      rw [hbb] at hx hb hd
      have hor := or_byte r b (by omega)
      have hnx := Aside0.mk (show beN (l.drop (n + (i + 1))) (r * 256 % 4294967296 + b) = told by
        rw [← hbe.out, hd]
        show _ = beN (l.drop (n + i + 1)) (r * 256 % 4294967296 + ((b : Int).toNat))
        rw [Int.toNat_natCast, Nat.add_assoc])
      have hlt := Aside0.mk (show r * 256 % 4294967296 + b < 4294967296 by omega)
      clear hil hb hd hbb
      go_wp2
      go_roundg g
      case measure => omega
      case rel => exact ⟨i + 1, _, by omega, rfl, by first | rfl | simp, hlt, hnx, rfl⟩
end Go.Proofs.Ytekakngojhnleaa.De
