/- bitset.numbers: the iterator over a set's numbers; slices.Collect against it: the walks. -/
import Derived.Test.YtdlkcohfgfnkbaaDoorBn
import Derived.Test.YtdlkcohfgfnkbaaDoorTz
import Derived.RangeFuncNested
import Derived.RangeFuncBound
import Derived.RangeFuncCalls
import Derived.RangeFuncLeaves
import Derived.RangeFuncBox
import Derived.Shelf.Abstract
import Derived.Shelf.RegionOpen
import Derived.WalkKit
import Derived.OwnWalkIn
import Derived.TacticsInMore
import Derived.LoopNIn
import Derived.LoopIn
import Derived.Maps.AppendAt
namespace Go.Proofs.YtdlkcohfgfnkbaaDoor.It
open Go.RowKit Go.Shelf Go.Proofs.YtdlkcohfgfnkbaaDoor.Bn Go.Proofs.YtdlkcohfgfnkbaaDoor.Tz Go.Proofs.YtdlkcohfgfnkbaaDoorW.PrintWords
set_option linter.unusedSimpArgs false
set_option linter.unusedVariables false
attribute [local go_sem] Oper.semAt_some

theorem less_wrap (x : Nat) (h0 : x ≠ 0) (h : x < 18446744073709551616) : IntKind.u64.wrap ((x : Int) - 1) = ((x - 1 : Nat) : Int) := by
  rw [IntKind.wrap_u64]
  omega
theorem cell_keep {w0 w : World} {n₀ : Nat} {a : Addr} {v : Value} (h : w0.cell? a = some v) (hn : w0.heap.size ≤ n₀) (hb : Below n₀ w0 w) : w.cell? a = some v := (hb.cell (Nat.lt_of_lt_of_le (World.block_lt_of_cell? w0 _ h) hn)).trans h
theorem tab_keep {w0 w : World} {n₀ : Nat} (h : Tab w0) (hn : w0.heap.size ≤ n₀) (hb : Below n₀ w0 w) : Tab w := fun j hj => cell_keep (h j hj) hn hb
theorem rd_getD (ws : List Int) (i : Nat) : rd ws (i : Int) = ws.getD i 0 := by unfold rd; rw [Int.toNat_natCast]
theorem getD_mem' (ws : List Int) (i : Nat) (h : i < ws.length) : ws.getD i 0 ∈ ws := by
  rw [List.getD_eq_getElem?_getD, List.getElem?_eq_getElem h, Option.getD_some]
  exact List.getElem_mem _
set_option maxRecDepth 100000 in
set_option maxHeartbeats 2000000 in
/-- numbers' closure: for every loop body that keeps what lay below n₀. -/
theorem numbers1_in (n : Nat) (hn : 1 ≤ n) (l Bs n₀ : Nat) (A : Option Addr) (N : Int) (c : Nat) (ws : List Int) (hws : ∀ x ∈ ws, 0 ≤ x ∧ x < 18446744073709551616) (hl : ws.length ≤ 2000) (J Jx : List Int → World → Prop)
    (hY : ∀ pre x W, J pre W → pre.length < 64 * ws.length → YieldAt Fence.wide (n - 1) Tryd.prog l #[.int .i64 x] W fun e W' =>
      (e = .returned (.bool true) ∧ J (pre ++ [x]) W' ∧ Below n₀ W W') ∨ (e = .returned (.bool false) ∧ Jx (pre ++ [x]) W'))
    (w0 W : World) (hn₀ : w0.heap.size ≤ n₀) (hW : Below n₀ w0 W) (hc : w0.heap[Bs]? = some (.cells #[.int .i64 N, .slice A ws.length c] 24 (0, 0))) (hC : Kd.C (Kd.int .u64) w0 A ws.length ws) (hT : Tab w0) (h0 : J [] W) :
    CallsIn Fence.wide n Tryd.prog 25 #[.func (.yield l) #[] #[], .pointer (some ⟨Bs, 0, none⟩)] W fun e W' => (∃ v, e = .returned v) ∧
      ((∃ ys, ys = numsTo ws ws.length ∧ J ys W') ∨ (∃ pre, True ∧ Jx pre W')) := by
  have hB1 := cell_keep (blk_cell hc 1) hn₀ hW
  change W.cell? ⟨Bs, 1, none⟩ = some (.slice A ws.length c) at hB1
  have HY := Aside0.mk hY
  have HC := Aside0.mk hC
  have HT := Aside0.mk hT
  have HWS := Aside0.mk hws
  have HW := Aside0.mk hW
  have HN := Aside0.mk hn₀
  clear hY hC hT hws hc hW hn₀
  refine callsIn_of_wp Tryd.func25 rfl trivial ?_ rfl
  simp only [Tryd.ntmps25, List.size_toArray, List.length_cons, List.length_nil, Nat.reduceAdd, Nat.reduceSub, Array.replicate_succ, Array.replicate_zero, List.push_toArray, List.append_toArray, List.nil_append, List.cons_append]
  gi_wp2
  clear hB1
  gi_loopw [8] (fun v8 wr => ∃ i : Nat, i ≤ ws.length ∧ v8 = .int .i64 i ∧ J (numsTo ws i) wr ∧ Aside0 (Below n₀ w0 wr)) (fun v8 _ => ws.length - (intOf v8).toNat)
  case atStart => exact ⟨0, Nat.zero_le _, rfl, h0, HW⟩
  case round =>
    obtain ⟨i, hi, rfl, hJs, HB⟩ := hrel
    by_cases hlt : i < ws.length
    · obtain ⟨ad, rfl, hce⟩ := Kd.at_int HC.out (i : Int) (by omega) (by omega)
      rw [Int.toNat_natCast, rd_getD] at hce
      have hce2 := cell_keep hce HN.out HB.out
      have hx := HWS.out _ (getD_mem' ws i hlt)
      obtain ⟨x0, hx0⟩ : ∃ x0 : Nat, (x0 : Int) = ws.getD i 0 := ⟨(ws.getD i 0).toNat, by omega⟩
      have hwn : wordN ws i = (bitsW x0).map (fun b => ((64 * i + b : Nat) : Int)) := by unfold wordN; rw [← hx0]; rfl
      rw [← hx0] at hce2 hx
      have HS := Aside0.mk (numsTo_succ ws i)
      have HLS := Aside0.mk (numsTo_len ws (i + 1))
      rw [hwn] at HS
      clear hce hwn hx0
      gi_wp2
      clear hce2
      obtain ⟨wo, hwo⟩ : ∃ wo, wo = wr := ⟨_, rfl⟩
      rw [← hwo] at hJs HB ⊢
      clear hwo wr
      gi_loopw [4] (fun v4 wr => ∃ (x : Nat) (pre : List Int), v4 = .int .u64 x ∧ x < 18446744073709551616 ∧ Aside0 (pre ++ (bitsW x).map (fun b => ((64 * i + b : Nat) : Int)) = numsTo ws (i + 1)) ∧ J pre wr ∧ Aside0 (Below n₀ w0 wr)) (fun v4 _ => (intOf v4).toNat)
      case atStart => exact ⟨x0, numsTo ws i, rfl, by omega, ⟨HS.out.symm⟩, hJs, HB⟩
      case round =>
        clear hJs HB
        obtain ⟨x, pre, rfl, hxl, HP, hJp, HB⟩ := hrel
        by_cases hz : x = 0
        · have hzb : ((x : Int) != 0) = false := by rw [hz]; rfl
          have HZ := Aside0.mk hz
          clear hz
          gi_wp2
          go_roundw
          case rel => exact ⟨i + 1, by omega, by go_num, by have := HP.out; rw [HZ.out, bitsW_zero, List.map_nil, List.append_nil] at this; rw [← this]; exact hJp, HB⟩
          case measure => simp [intOf]; omega
        · have hzb : ((x : Int) != 0) = true := by rw [bne_iff_ne]; omega
          have hnx := bitsW_next x hz hxl
          obtain ⟨_, _, hk⟩ := ctz_bit x hz hxl
          have hlw := less_wrap x hz hxl
          have hll := less_lt x hz
          have htz := tz_calls x hxl hz
          obtain ⟨k, hkk⟩ : ∃ k, k = Lib.ctz 64 x := ⟨_, rfl⟩
          rw [← hkk] at hnx hk htz
          have HX := Aside0.mk hnx
          have HTZ := Aside0.mk htz
          have hpl : pre.length < 64 * ws.length := by
            have h1 := HLS.out
            rw [← HP.out, List.length_append, List.length_map, hnx, List.length_cons] at h1
            omega
          have hT3 := Aside0.mk (tab_keep HT.out HN.out HB.out)
          obtain ⟨fn, tmps, assign, body, hy, hR⟩ := HY.out pre ((64 * i + k : Nat) : Int) wr hJp hpl
          clear hkk hnx htz
          rw [show ((64 * i + k : Nat) : Int) = 64 * (i : Int) + (k : Int) by omega] at hy
          have HHL := Aside0.mk hlw
          clear hlw
          gi_wp2
          refine ⟨trivial, (callsIn_wide.2 (HTZ.out _ hT3.out)).mono ?_⟩
          rintro e w' ⟨rfl, rfl⟩
          gi_wp2
          refine hR.mono ?_
          rintro e W3 (⟨rfl, hJ3, hk3⟩ | ⟨rfl, hJx3⟩)
          · clear hR hy
            have HB3 := Aside0.mk (HB.out.trans hk3)
            have hlw := HHL.out
            have hand := bits_and_u64_nat x (x - 1) hxl (by omega)
            clear hk3
            gi_wp2
            go_roundw
            case rel =>
              refine ⟨x &&& (x - 1), pre ++ [((64 * i + k : Nat) : Int)], ?_, by omega, ⟨?_⟩, hJ3, HB3⟩
              · rfl
              · rw [← HP.out, HX.out, List.map_cons, List.append_assoc]; rfl
            case measure => simp [intOf]; omega
          · gi_wp2
            refine bodyPost_ret (results_none rfl _ _ _) rfl ?_
            exact ⟨⟨_, rfl⟩, .inr ⟨_, trivial, hJx3⟩⟩
    · obtain rfl : i = ws.length := by omega
      gi_wp2
      go_end0
      exact ⟨⟨_, rfl⟩, .inl ⟨_, rfl, hJs⟩⟩
/-- What numbers gives back is an iterator over the set's numbers. -/
theorem numbers_stops (n : Nat) (hn : 1 ≤ n) (Bs n₀ : Nat) (A : Option Addr) (N : Int) (c : Nat) (ws : List Int) (hws : ∀ x ∈ ws, 0 ≤ x ∧ x < 18446744073709551616) (hl : ws.length ≤ 2000) (w0 : World) (hn₀ : w0.heap.size = n₀)
    (hc : w0.heap[Bs]? = some (.cells #[.int .i64 N, .slice A ws.length c] 24 (0, 0))) (hC : Kd.C (Kd.int .u64) w0 A ws.length ws) (hT : Tab w0) :
    SeqStopsK Fence.wide n Tryd.prog 25 #[.pointer (some ⟨Bs, 0, none⟩)] (fun x : Int => #[Value.int .i64 x]) (Below n₀) (fun ys => ys = numsTo ws ws.length) (fun _ => True) (64 * ws.length) w0 := fun l J Jx W hW _ _ hY h0 => by
  subst hn₀
  exact numbers1_in n hn l Bs _ A N c ws hws hl J Jx hY w0 W (Nat.le_refl _) hW hc hC hT h0
theorem info3 : (Tryd.prog.info? 3).map (fun i => (i.zero, i.size, i.bytes)) = some (some (.int .i64 0), 1, 8) := by kernel_rfl
set_option maxRecDepth 100000 in
set_option maxHeartbeats 2000000 in
/-- slices.AppendSeq(nil, seq), seq an iterator that reads memory. -/
theorem appendSeq_in (n : Nat) (hn : 3 ≤ n) (gf : Nat) (lb : Array Value) (eg : ∀ args w, (callFunc gf args).run Tryd.prog w = .ok (.enter gf args) w) (xs : List Int) (M : Nat) (Sp : List Int → Prop) (hlen : M ≤ 1000000) (hxs : xs.length ≤ M) (w : World)
    (hseq : SeqStopsK Fence.wide (n - 1) Tryd.prog gf lb (fun x : Int => #[Value.int .i64 x]) (Below w.heap.size) (fun ys => ys = xs) Sp M w) :
    CallsIn Fence.wide n Tryd.prog 24 #[.slice none 0 0, .func (.func gf) #[] lb] w fun e W' => ∃ v, e = .returned v ∧ W'.ownsRow w.heap.size 3 1 v xs.length (xs.map (Value.int .i64)) ∧ Below w.heap.size w W' := by
  have h1 : 1 ≤ n := by omega
  obtain ⟨i0, hi, hz0, hz1, hz2⟩ := info_parts info3
  refine callsIn_of_wp_marks Tryd.func24 rfl trivial ?_ rfl
  simp only [Tryd.ntmps24, List.size_toArray, List.length_cons, List.length_nil, Nat.reduceAdd, Nat.reduceSub, Array.replicate_succ, Array.replicate_zero, List.push_toArray, List.append_toArray, List.nil_append, List.cons_append]
  gi_wp2
  have bO := Boxed.new w 26 (.slice none 0 0)
  have hB0 : Below w.heap.size w (w.alloc (.cells #[.slice none 0 0] 26)) := (Below.refl _ w).alloc (Nat.le_refl _) _
  refine wpIn_rangeFunc_ownG rfl h1 (gf := gf) (lb := lb) rfl trivial eg hseq belowK_t (belowK_b (by simp)) hB0 (fun _ => rfl)
    (fun pre W => (∃ v, Boxed W w.heap.size 26 v ∧ W.ownsRow w.heap.size 3 1 v pre.length (pre.map (Value.int .i64)) ∧ True) ∧ Below w.heap.size w W)
    (fun _ _ _ => False)
    (OwnFrom.and (Own.from (holdsRow_own w.heap.size w.heap.size 26 3 1 (fun pre : List Int => pre.length) (fun pre => pre.map (Value.int .i64)) (fun pre v => True)) _) (ownFrom_below (Nat.le_refl _) (by simp)))
    (fun _ _ _ _ _ hs _ _ => hs)
    ⟨⟨_, bO, World.ownsRow_nil _ _ _ _, trivial⟩, hB0⟩
    (fun x => { tmps := #[.slice none 0 0, .func (.func gf) #[] lb, .pointer (some ⟨w.heap.size, 0, none⟩), undef, .slice none 0 0, .int .i64 x, .func (.func gf) #[] lb, .int .i64 x, undef, undef, undef, undef, undef], defers := [] }) ?assign ?body ?done ?stop
  case assign =>
    intro l x W K hK
    gi_wp2
    exact hK
  case body =>
    rintro l pre x W ⟨⟨v, hv, hrow, _⟩, hB⟩ hlt
    have hc := hv.cell
    gi_wp2_with (gi_at_builtin; refine wpListIn_append_own _ rfl _ _ 26 rfl w.heap.size 3 i0 (.int .i64 0) 1 8 Tryd.underlying26 hi hz0 hz1 hz2 rfl (by decide) _ _ _ rfl (hrow.alloc _) ⟨W.heap.size, 0, none⟩ 1 1 [.int .i64 x] rfl rfl (cell_one_new _ _ _) (by simp [Value.oneCell']) (by unfold maxLen; omega) (by omega) (by have := hB.size; simp; omega) ?_; intro v' w1 hown' hgrow _; obtain ⟨g', cap', rfl⟩ := ownsRow_succ hown'; obtain ⟨hv1, hv2, hr2, hk2, hb2⟩ := hv.appended (by decide) hrow hB.size (Nat.le_refl _) hown' hgrow; have hc1 := hv1.cell; have hf1 := hv1.frozen)
    exact ⟨hk2.from _, hb2, ⟨_, hv2, by simpa using hr2, trivial⟩, hB.trans hb2⟩
  case done =>
    rintro D ys W hD rfl ⟨⟨v, hv, hrow, _⟩, hB⟩ hK
    have hc := hv.cell
    gi_wp2
    refine ⟨by simp, .inl ⟨_, _, rfl, run_takeDeferred hK, ?_⟩⟩
    exact ⟨_, results_tmp rfl _ _ _, v, rfl, ownsRow_putObj hrow _ hK rfl, hB.trans (belowK_b (w := w) (Nat.le_refl _) W D _ _ (by simp at hD; omega) hK rfl rfl)⟩
  case stop =>
    rintro D c pre W _ _ h _
    exact h.elim
end Go.Proofs.YtdlkcohfgfnkbaaDoor.It
