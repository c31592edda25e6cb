/- bitset.List: the walk. -/
import Derived.Test.YtdlkcohfgfnkbaaDoorIt
import Derived.Test.YtdlkcohfgfnkbaaDoorBl
import Derived.Test.YtdlkcohfgfnkbaaDoorOb
namespace Go.Proofs.YtdlkcohfgfnkbaaDoor.Ls
open Go.RowKit Go.Shelf Go.Proofs.YtdlkcohfgfnkbaaDoor.PBitsetTells Go.Proofs.YtdlkcohfgfnkbaaDoor.Bn Go.Proofs.YtdlkcohfgfnkbaaDoor.Bp Go.Proofs.YtdlkcohfgfnkbaaDoor.It Go.Proofs.YtdlkcohfgfnkbaaDoor.Tz Go.Proofs.YtdlkcohfgfnkbaaDoorW.PrintWords Go.Proofs.YtdlkcohfgfnkbaaDoorW.PrintLast Go.Proofs.YtdlkcohfgfnkbaaDoorW.PrintMore
set_option linter.unusedSimpArgs false
set_option linter.unusedVariables false

theorem collect_calls (gf : Nat) (lb : Array Value) (eg : ∀ args w, (callFunc gf args).run Tryd.prog w = .ok (.enter gf args) w) (xs : List Int) (M : Nat) (Sp : List Int → Prop) (hlen : M ≤ 1000000) (hxs : xs.length ≤ M) (w : World)
    (hseq : SeqStopsK Fence.wide 4 Tryd.prog gf lb (fun x : Int => #[Value.int .i64 x]) (Below w.heap.size) (fun ys => ys = xs) Sp M w) :
    Calls Tryd.prog 17 #[.func (.func gf) #[] lb] w fun e W' => ∃ v, e = .returned v ∧ (Kd.int .i64).R 3 W' w.heap.size (fun _ => True) v xs ∧ Below w.heap.size w W' := by
  have HS := Aside0.mk hseq
  have HE := Aside0.mk eg
  clear hseq eg
  go_enter Tryd.func17, Tryd.ntmps17
  go_wp2_with fail
  refine (callsIn_wide.1 (appendSeq_in 5 (by omega) gf lb HE.out xs M Sp hlen hxs w HS.out)).mono ?_
  rintro e w1 ⟨v, rfl, ho, hb⟩
  obtain ⟨A, c, rfl⟩ := own_slice ho
  have HR := Aside0.mk (show (Kd.int .i64).R 3 w1 w.heap.size (fun _ => True) (.slice A xs.length c) xs from Kd.R_of_own ho (fun _ _ => trivial))
  have HB := Aside0.mk hb
  clear ho hb
  go_wp2_with fail
  go_ret
  exact ⟨_, rfl, HR.out, HB.out⟩
theorem numbers_calls (N : Int) (A : Option Addr) (n c : Nat) (w : World) :
    Calls Tryd.prog 18 #[.agg #[.int .i64 N, .slice A n c]] w fun e w' => e = .returned (.func (.func 25) #[] #[.pointer (some ⟨w.heap.size, 0, none⟩)]) ∧ w' = w.alloc (.cells #[.int .i64 N, .slice A n c] 24) := by
  go_enter Tryd.func18, Tryd.ntmps18
  go_wp2_with fail
  go_ret
  exact ⟨rfl, rfl⟩
theorem two_cells {W : World} {g t : Nat} {x y : Value} (h : W.heap[g]? = some (.cells #[x, y] t (0, 0))) : W.cell? ⟨g, 0, none⟩ = some x ∧ W.cell? ⟨g, 1, none⟩ = some y := ⟨blk_cell h 0, blk_cell h 1⟩
theorem tab_below {w w1 : World} (h : Tab w) (hb : Below w.heap.size w w1) : Tab w1 := tab_keep h (Nat.le_refl _) hb
set_option maxRecDepth 100000 in
set_option maxHeartbeats 1000000 in
theorem list_calls (N : Int) (A : Option Addr) (c : Nat) (ws : List Int) (w : World) (hr : Kd.C (Kd.int .u64) w A ws.length ws) (hc : ws.length ≤ c) (hw : Wf ws) (hl : ws.length ≤ 2000) (hT : Tab w) :
    Calls Tryd.prog 6 #[.agg #[.int .i64 N, .slice A ws.length c]] w fun e w' => ∃ v, e = .returned v ∧ (Kd.int .i64).R 3 w' w.heap.size (fun _ => True) v (listS N ws) ∧ Below w.heap.size w w' := by
  have HR := Aside0.mk hr
  have HW := Aside0.mk hw
  have HT := Aside0.mk hT
  have HB := Aside0.mk (below_alloc (Below.refl _ w) (.cells #[.int .i64 N, .slice A ws.length c] 24))
  have K := Aside0.mk (blk_new w (.cells #[.int .i64 N, .slice A ws.length c] 24))
  have hp := prog_right N ws hw (by omega)
  have HP := Aside0.mk hp
  obtain ⟨W0, hW0⟩ : ∃ W, W = w.alloc (.cells #[.int .i64 N, .slice A ws.length c] 24) := ⟨_, rfl⟩
  clear hr hw hT hp
  go_enter Tryd.func6, Tryd.ntmps6
  go_wp2_with fail
  rw [← hW0] at HB K ⊢
  clear hW0
  refine (bitset_Right.calls N A c ws _ _ (Kd.C_below HR.out HB.out) hc HP.out).mono ?_
  rintro e w1 ⟨rfl, hb1⟩
  have HB1 := Aside0.mk (HB.out.trans (hb1.mono HB.out.size))
  have K1 := Aside0.mk (blk_below K.out hb1)
  clear hb1
  cases h : rightB N ws with
  | false =>
    have H := Aside0.mk h
    clear h
    go_wp2_with fail
    go_ret
    refine ⟨_, rfl, ?_, HB1.out⟩
    unfold listS
    rw [H.out]
    exact Kd.R_nil _ _ _ _ _
  | true =>
    have H := Aside0.mk h
    clear h
    obtain ⟨c0, c1⟩ := two_cells K1.out
    go_wp2_with fail
    clear c0 c1
    refine (numbers_calls N A ws.length c _).mono ?_
    rintro e w2 ⟨rfl, hw2⟩
    have HB2 := Aside0.mk (show Below w1.heap.size w1 w2 by rw [hw2]; exact below_alloc (Below.refl _ _) _)
    have K2 := Aside0.mk (show w2.heap[w1.heap.size]? = some (.cells #[.int .i64 N, .slice A ws.length c] 24 (0, 0)) by rw [hw2]; exact blk_new w1 _)
    have HB12 := Aside0.mk (HB1.out.trans (HB2.out.mono HB1.out.size))
    clear hw2
    go_wp2_with fail
    refine (collect_calls 25 #[.pointer (some ⟨w1.heap.size, 0, none⟩)] (enters_of Tryd.func25 (by kernel_rfl) rfl) (numsTo ws ws.length) (64 * ws.length) (fun _ => True) (by omega) (numsTo_len _ _) w2 (numbers_stops 4 (by omega) w1.heap.size _ A N c ws HW.out hl w2 rfl K2.out (Kd.C_below HR.out HB12.out) (tab_below HT.out HB12.out))).mono ?_
    rintro e w3 ⟨v, rfl, hv, hb3⟩
    rw [listS_nums H.out] at hv
    have HV := Aside0.mk (Kd.R_lower hv HB12.out.size)
    have HB3 := Aside0.mk (HB12.out.trans (hb3.mono HB12.out.size))
    obtain ⟨A3, c3, rfl⟩ := Kd.R_slice hv
    clear hv hb3
    go_wp2_with fail
    go_ret
    exact ⟨_, rfl, HV.out, HB3.out⟩
end Go.Proofs.YtdlkcohfgfnkbaaDoor.Ls
