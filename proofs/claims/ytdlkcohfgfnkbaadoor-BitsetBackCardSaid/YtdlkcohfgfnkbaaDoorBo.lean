/- Sets of bits: bitset.Of: the walk. -/
import Derived.Test.YtdlkcohfgfnkbaaDoorBj
import Derived.Test.YtdlkcohfgfnkbaaDoorIx
import Derived.RegionTactic
namespace Go.Proofs.YtdlkcohfgfnkbaaDoor.Bo
open Go.Proofs.YtdlkcohfgfnkbaaDoor.Fns Go.RowKit Go.Proofs.YtdlkcohfgfnkbaaDoor.PBitsetTells Go.Proofs.YtdlkcohfgfnkbaaDoor.Bp Go.Proofs.YtdlkcohfgfnkbaaDoor.Bj Go.Proofs.YtdlkcohfgfnkbaaDoor.Ix Go.Proofs.YtdlkcohfgfnkbaaDoorW.PrintWords Go.Proofs.YtdlkcohfgfnkbaaDoorW.PrintLast Go.Proofs.YtdlkcohfgfnkbaaDoorW.PrintMore
set_option linter.unusedSimpArgs false
set_option linter.unusedVariables false

def badB (N x : Int) : Bool := decide (x < 0) || decide (N ≤ x)
theorem pred23 (g : Nat) (N : Int) (w : World) (hc : w.cell? ⟨g, 0, none⟩ = some (.int .i64 N)) : Pred 23 #[.pointer (some ⟨g, 0, none⟩)] w (badB N) where
  enter := fun args w => by go_simp
  calls := fun x => by
    show Calls Tryd.prog 23 #[.int .i64 x, .pointer (some ⟨g, 0, none⟩)] w _
    by_cases h : x < 0
    · go_enter Tryd.func23, Tryd.ntmps23
      go_wp2
      go_ret
      exact ⟨by unfold badB; rw [decide_eq_true h]; rfl, rfl⟩
    · go_enter Tryd.func23, Tryd.ntmps23
      go_wp2
      go_ret
      exact ⟨by unfold badB; rw [decide_eq_false (Int.not_lt.2 h)]; rfl, rfl⟩

theorem boxes (w : World) (N : Int) : ∃ W1, W1 = (w.alloc (.cells #[.int .i64 N] 3)).alloc (.cells #[.int .i64 0, .slice none 0 0] 24) ∧ Below w.heap.size w W1 ∧ W1.heap.size = w.heap.size + 1 + 1 ∧ W1.heap[w.heap.size]? = some (.cells #[.int .i64 N] 3 (0, 0)) ∧ W1.heap[w.heap.size + 1]? = some (.cells #[.int .i64 0, .slice none 0 0] 24 (0, 0)) := by
  refine ⟨_, rfl, below_alloc (below_alloc (Below.refl _ _) _) _, by rw [World.size_alloc, World.size_alloc], blk_alloc (blk_new w _) _, ?_⟩
  rw [← World.size_alloc w (.cells #[.int .i64 N] 3)]
  exact blk_new _ _
theorem two_cells {W : World} {g t : Nat} {x y : Value} (h : W.heap[g]? = some (.cells #[x, y] t (0, 0))) : W.cell? ⟨g, 0, none⟩ = some x ∧ W.cell? ⟨g, 1, none⟩ = some y := ⟨blk_cell h 0, blk_cell h 1⟩
theorem two_frozen {W : World} {g t : Nat} {x y : Value} (h : W.heap[g]? = some (.cells #[x, y] t (0, 0))) : W.frozen? ⟨g, 0, none⟩ = false ∧ W.frozen? ⟨g, 1, none⟩ = false := ⟨blk_frozen h 0, blk_frozen h 1⟩
theorem one_cell {W : World} {g t : Nat} {x : Value} (h : W.heap[g]? = some (.cells #[x] t (0, 0))) : W.cell? ⟨g, 0, none⟩ = some x := blk_cell h 0

theorem setB_or (Z : List Int) (x q r : Nat) (hq : x / 64 = q) (hr : x % 64 = r) (hw : Wf Z) : Z.set q (Go.bits .or .u64 (rd Z (q : Int)) (IntKind.u64.wrap (2 ^ r))) = setB Z x := by
  have hwg := hw.get q
  have hp : 2 ^ r < 18446744073709551616 := Nat.pow_lt_pow_right (n := 64) (by omega) (by omega)
  have e1 : IntKind.u64.wrap ((2 : Int) ^ r) = ((2 ^ r : Nat) : Int) := by
    rw [show (2 : Int) ^ r = ((2 ^ r : Nat) : Int) by rw [Int.natCast_pow]; rfl]
    generalize 2 ^ r = p at hp ⊢
    rw [IntKind.wrap_u64]
    omega
  have e2 : rd Z (q : Int) = (((Z.getD q 0).toNat : Nat) : Int) := by
    unfold rd
    rw [Int.toNat_natCast]
    omega
  rw [e1, e2, u64_or_nat _ _ (by omega) hp]
  unfold setB
  rw [hq, hr]
set_option maxRecDepth 100000 in
set_option maxHeartbeats 1000000 in
theorem of_bad1 (N : Int) (A : Option Addr) (c : Nat) (l : List Int) (w : World) (h : N < 0 ∨ 65536 < N) :
    Calls Tryd.prog 15 #[.int .i64 N, .slice A l.length c] w fun e w' => e = .returned (.tuple #[.agg #[.int .i64 0, .slice none 0 0], .int .i64 1]) ∧ Below w.heap.size w w' := by
  have HN := Aside0.mk (prog_new N)
  rw [if_pos h] at HN
  obtain ⟨W1, hW1, hB1, hs1, k0, k1⟩ := boxes w N
  clear h
  go_enter Tryd.func15, Tryd.ntmps15
  go_wp2_with fail
  rw [← hW1]
  clear hW1
  refine (bitset_New.calls N 0 [] 1 _ HN.out).mono ?_
  rintro e w2 ⟨V, rfl, ho, hb⟩
  obtain ⟨X, cx, rfl, _, _⟩ := Kd.R_reads ho
  rw [List.length_nil]
  have K1 := Aside0.mk (blk_alloc (blk_below k1 hb) (.cells #[.int .i64 0, .slice X 0 cx] 24))
  have HB := Aside0.mk (below_alloc (hB1.trans (hb.mono hB1.size)) (.cells #[.int .i64 0, .slice X 0 cx] 24))
  obtain ⟨c0, c1⟩ := two_cells K1.out
  obtain ⟨f0, f1⟩ := two_frozen K1.out
  clear hb ho hB1 hs1 k0 k1
  go_wp2_with fail
  exact bodyPost_ret (results_ct rfl _ _ (w.heap.size + 1) 24 #[.int .i64 0, .slice none 0 0] (0, 0) _ rfl (blk_put (cs := #[.int .i64 0, .slice none 0 0]) (blk_put K1.out 0 _ rfl) 1 _ rfl) Tryd.underlying24 rfl (by kernel_rfl)) rfl ⟨rfl, below_set (below_set HB.out (by show w.heap.size ≤ w.heap.size + 1; omega)) (by show w.heap.size ≤ w.heap.size + 1; omega)⟩
set_option maxRecDepth 100000 in
set_option maxHeartbeats 1000000 in
theorem of_bad2 (N : Int) (A : Option Addr) (c : Nat) (l : List Int) (w : World) (hr : Kd.C (Kd.int .i64) w A l.length l) (hl : l.length ≤ 140737488351232) (h : ¬ (N < 0 ∨ 65536 < N)) (hb : l.any (badB N) = true) :
    Calls Tryd.prog 15 #[.int .i64 N, .slice A l.length c] w fun e w' => e = .returned (.tuple #[.agg #[.int .i64 0, .slice none 0 0], .int .i64 1]) ∧ Below w.heap.size w w' := by
  have HR := Aside0.mk hr
  have HN := Aside0.mk (prog_new N)
  rw [if_neg h] at HN
  have HBD := Aside0.mk hb
  obtain ⟨W1, hW1, hB1, hs1, k0, k1⟩ := boxes w N
  clear h hr hb
  go_enter Tryd.func15, Tryd.ntmps15
  go_wp2_with fail
  rw [← hW1]
  clear hW1
  refine (bitset_New.calls N N _ 0 _ HN.out).mono ?_
  rintro e w2 ⟨V, rfl, ho, hb⟩
  obtain ⟨X, cx, rfl, _, _⟩ := Kd.R_reads ho
  rw [List.length_replicate]
  have K0 := Aside0.mk (blk_below k0 hb)
  have K1 := Aside0.mk (blk_below k1 hb)
  have HB := Aside0.mk (hB1.trans (hb.mono hB1.size))
  clear hb ho hB1 hs1 k0 k1
  go_wp2_with fail
  have HB3 := Aside0.mk (below_alloc HB.out (.cells #[.int .i64 N, .slice X ((N + 63) / 64).toNat cx] 24))
  have K3 := Aside0.mk (blk_alloc K1.out (.cells #[.int .i64 N, .slice X ((N + 63) / 64).toNat cx] 24))
  refine (contains_calls 23 #[.pointer (some ⟨w.heap.size, 0, none⟩)] (badB N) A c l _ (Kd.C_below HR.out HB3.out) hl (pred23 _ N _ (one_cell (blk_alloc K0.out _)))).mono ?_
  rintro e w4 ⟨rfl, rfl⟩
  rw [HBD.out]
  obtain ⟨c0, c1⟩ := two_cells K3.out
  obtain ⟨f0, f1⟩ := two_frozen K3.out
  go_wp2_with fail
  exact bodyPost_ret (results_ct rfl _ _ (w.heap.size + 1) 24 #[.int .i64 0, .slice none 0 0] (0, 0) _ rfl (blk_put (cs := #[.int .i64 0, .slice none 0 0]) (blk_put K3.out 0 _ rfl) 1 _ rfl) Tryd.underlying24 rfl (by kernel_rfl)) rfl ⟨rfl, below_set (below_set HB3.out (by show w.heap.size ≤ w.heap.size + 1; omega)) (by show w.heap.size ≤ w.heap.size + 1; omega)⟩
set_option maxRecDepth 100000 in
set_option maxHeartbeats 2000000 in
theorem of_good (N : Int) (A : Option Addr) (c : Nat) (l : List Int) (w : World) (hr : Kd.C (Kd.int .i64) w A l.length l) (hl : l.length ≤ 140737488351232) (h : ¬ (N < 0 ∨ 65536 < N)) (hb : l.any (badB N) = false) :
    Calls Tryd.prog 15 #[.int .i64 N, .slice A l.length c] w fun e w' => ∃ v, e = .returned (.tuple #[.agg #[.int .i64 N, v], .int .i64 0]) ∧ (Kd.int .u64).R 30 w' w.heap.size (fun _ => True) v (l.foldl (fun w e => setB w e.toNat) (List.replicate ((N + 63) / 64).toNat 0)) ∧ Below w.heap.size w w' := by
  have HR := Aside0.mk hr
  have HN := Aside0.mk (prog_new N)
  rw [if_neg h] at HN
  have HBD := Aside0.mk hb
  have HGD := Aside0.mk (show ∀ e ∈ l, 0 ≤ e ∧ e < N by
    intro e he
    have := List.any_eq_false.1 hb e he
    unfold badB at this
    simp only [Bool.or_eq_true, decide_eq_true_eq] at this
    omega)
  have HNN := Aside0.mk (show 0 ≤ N ∧ N ≤ 65536 by omega)
  obtain ⟨W1, hW1, hB1, hs1, k0, k1⟩ := boxes w N
  obtain ⟨n, hn⟩ : ∃ n, n = ((N + 63) / 64).toNat := ⟨_, rfl⟩
  rw [← hn] at HN ⊢
  have HNl := Aside0.mk hn
  clear h hr hb hn
  go_enter Tryd.func15, Tryd.ntmps15
  go_wp2_with fail
  rw [← hW1]
  clear hW1
  refine (bitset_New.calls N N _ 0 _ HN.out).mono ?_
  rintro e w2 ⟨V, rfl, ho, hb⟩
  obtain ⟨X, cx, rfl, hcx, _⟩ := Kd.R_reads ho
  rw [List.length_replicate] at hcx ho ⊢
  have K0 := Aside0.mk (blk_below k0 hb)
  have K1 := Aside0.mk (blk_below k1 hb)
  have HO := Aside0.mk ho
  have HB := Aside0.mk (hB1.trans (hb.mono hB1.size))
  have HS := Aside0.mk (And.intro hs1 hb.size)
  clear hb ho hB1 hs1 k0 k1
  go_wp2_with fail
  have HB3 := Aside0.mk (below_alloc HB.out (.cells #[.int .i64 N, .slice X n cx] 24))
  refine (contains_calls 23 #[.pointer (some ⟨w.heap.size, 0, none⟩)] (badB N) A c l _ (Kd.C_below HR.out HB3.out) hl (pred23 _ N _ (one_cell (blk_alloc K0.out _)))).mono ?_
  rintro e w4 ⟨rfl, rfl⟩
  rw [HBD.out]
  go_wp2_with fail
  obtain ⟨W5, hW5⟩ : ∃ W, W = w2.alloc (.cells #[.int .i64 N, .slice X n cx] 24) := ⟨_, rfl⟩
  have HK := Aside0.mk (show W5.heap[w.heap.size + 1]? = some (.cells #[.int .i64 0, .slice none 0 0] 24 (0, 0)) ∧ W5.heap[w2.heap.size]? = some (.cells #[.int .i64 N, .slice X n cx] 24 (0, 0)) by rw [hW5]; exact ⟨blk_alloc K1.out _, blk_new _ _⟩)
  have HR5 := Aside0.mk (show (Kd.int .u64).R 30 W5 W1.heap.size (fun _ => True) (.slice X n cx) (List.replicate n 0) by rw [hW5]; exact Kd.R_alloc HO.out _)
  have HB5 := Aside0.mk (show Below w.heap.size w W5 by rw [hW5]; exact HB3.out)
  have HOB := Aside0.mk (fun k (hk : (Value.slice X n cx).ownBlock = some k) => show W1.heap.size ≤ k ∧ k < w2.heap.size by
    have := (Kd.R_bound HO.out).1 k hk
    exact ⟨this.2.1, this.2.2.1⟩)
  rw [← hW5]
  clear hW5 HB3 K0 K1
  go_loopg [9, 25] l.length (fun g v9 v25 wx => ∃ i : Nat, i + g = l.length ∧ v25 = .int .i64 (i : Int) ∧ Aside0 ((Kd.int .u64).R 30 wx W1.heap.size (fun _ => True) (.slice X n cx) ((l.take i).foldl (fun w e => setB w e.toNat) (List.replicate n 0))) ∧ Aside0 (W5.grownBy wx (Value.slice X n cx).ownBlock) ∧ Aside0 (Below w.heap.size w wx))
  case atStart => exact ⟨0, by omega, rfl, HR5, ⟨World.grownBy.refl _ _⟩, HB5⟩
  case round =>
    obtain ⟨i, hig, rfl, HRR, HG, HBB⟩ := hrel
    have k3 := blk_grown HK.out.1 HG.out (fun e => by have := HOB.out _ e.symm; have := HS.out; omega)
    have k4 := blk_grown HK.out.2 HG.out (fun e => by have := HOB.out _ e.symm; have := HS.out; omega)
    cases gk with
    | zero =>
      have hlt : ¬ (i : Int) < (l.length : Int) := by omega
      have K3 := Aside0.mk k3
      obtain ⟨c40, c41⟩ := two_cells k4
      obtain ⟨c30, c31⟩ := two_cells k3
      obtain ⟨f30, f31⟩ := two_frozen k3
      have HR' := Aside0.mk (show (Kd.int .u64).R 30 wr W1.heap.size (fun _ => True) (.slice X n cx) (l.foldl (fun w e => setB w e.toNat) (List.replicate n 0)) by
        have := HRR.out
        rw [List.take_of_length_le (by omega)] at this
        exact this)
      clear k3 k4 HRR
      go_wp2_with fail
      refine bodyPost_ret (results_ct rfl _ _ (w.heap.size + 1) 24 #[.int .i64 N, .slice X n cx] (0, 0) _ rfl (blk_put (cs := #[.int .i64 N, .slice none 0 0]) (blk_put K3.out 0 _ rfl) 1 _ rfl) Tryd.underlying24 rfl (by kernel_rfl)) rfl ⟨_, rfl, ?_, below_set (below_set HBB.out (by show w.heap.size ≤ w.heap.size + 1; omega)) (by show w.heap.size ≤ w.heap.size + 1; omega)⟩
      exact R_set2 HR'.out (by have := HS.out; omega) _ _ _ _ (by have := HS.out; omega)
    | succ g =>
      have hlt : (i : Int) < (l.length : Int) := by omega
      obtain ⟨ada, rfl, hca2⟩ := Kd.at_int (Kd.C_below HR.out HBB.out) (i : Int) (by omega) hlt
      rw [Int.toNat_natCast] at hca2
      have hx0 := HGD.out _ (rd_mem l i (by omega))
      obtain ⟨x, hx⟩ : ∃ x : Nat, rd l (i : Int) = (x : Int) := ⟨(rd l (i : Int)).toNat, by omega⟩
      have hdrop : l.take (i + 1) = l.take i ++ [(x : Int)] := by
        rw [List.take_succ_eq_append_getElem (by omega), ← hx]
        congr 2
        simp [rd, show i < l.length by omega]
      rw [hx] at hca2 hx0
      have hxn : x / 64 < n := by have := HNl.out; have := HNN.out; omega
      have HOW := Aside0.mk (Kd.own_of_R HRR.out)
      have hlen : ((l.take i).foldl (fun w e => setB w e.toNat) (List.replicate n 0)).length = n := by rw [fold_length, List.length_replicate]
      obtain ⟨Z, hZ⟩ : ∃ Z, Z = (l.take i).foldl (fun w e => setB w e.toNat) (List.replicate n 0) := ⟨_, rfl⟩
      have HWZ := Aside0.mk (show Wf Z by rw [hZ]; exact fold_wf _ _ (Wf.zeros _))
      rw [← hZ] at HOW hlen
      obtain ⟨g4, cap, hsl, hbg, hlg⟩ := HOW.out.form (by rw [hlen]; omega)
      injection hsl with e1 e2 e3
      subst e1 e3
      clear e2
      have HOW2 := HOW.out
      rw [hlen] at HOW2
      have HDR := Aside0.mk (And.intro hdrop hZ)
      obtain ⟨hc1, hf1⟩ := own_at HOW2 ((x / 64 : Nat) : Int) (by omega) (by omega)
      rw [Int.toNat_natCast] at hc1 hf1
      obtain ⟨q, hq⟩ : ∃ q : Nat, (x : Int) / 64 = (q : Int) := ⟨x / 64, by omega⟩
      obtain ⟨r, hr⟩ : ∃ r : Nat, (x : Int) % 64 = (r : Int) := ⟨x % 64, by omega⟩
      have hqx : x / 64 = q := by omega
      have hrx : x % 64 = r := by omega
      rw [hqx] at hc1 hf1 hxn
      have hq2 : (q : Int) < (n : Int) := by omega
      have hr2 : r < 64 := by omega
      have hn2 : (q : Int) < 65536 := by have := HNl.out; have := HNN.out; omega
      obtain ⟨c40, c41⟩ := two_cells k4
      have HQ := Aside0.mk (And.intro hqx (And.intro hrx hlen))
      have HOW3 := Aside0.mk HOW2
      clear k3 k4 HRR hdrop hZ hlen HOW2 hqx hrx hx hx0 hxn
      go_wp2_with fail
      go_region
      go_wp2_with fail
      go_roundg g
      case measure => omega
      case rel =>
        have hst := own_store HOW3.out (q : Int) (Go.bits .or .u64 (rd Z (q : Int)) (IntKind.u64.wrap (2 ^ r)))
        rw [Int.toNat_natCast] at hst
        have hset := setB_or Z x q r HQ.out.1 HQ.out.2.1 HWZ.out
        refine ⟨i + 1, by omega, rfl, ⟨?_⟩, ⟨?_⟩, ⟨?_⟩⟩
        · rw [HDR.out.1, List.foldl_append, ← HDR.out.2, List.foldl_cons, List.foldl_nil, Int.toNat_natCast, ← hset]
          exact Kd.R_drew (Kd.R_of_own (h1 := fun _ => rfl) (enc := Value.int .u64) (ok := fun _ => True) (by rw [List.length_set, HQ.out.2.2]; exact hst.1) (fun _ _ => trivial))
        · exact grown_drew (HG.out.trans hst.2)
        · exact below_drew (below_set HBB.out (by have := HS.out; have := HB5.out.size; omega))
theorem ofS_good (N : Int) (l : List Int) (h : ¬ (N < 0 ∨ 65536 < N)) (hb : l.any (badB N) = false) : ofS N l = (N, l.foldl (fun w e => setB w e.toNat) (List.replicate ((N + 63) / 64).toNat 0), 0) := by
  unfold ofS
  rw [if_neg h, ofL_good]
  intro e he
  have := List.any_eq_false.1 hb e he
  unfold badB at this
  simp only [Bool.or_eq_true, decide_eq_true_eq] at this
  omega
theorem ofL_bad (N : Int) : ∀ (l ws : List Int), l.any (badB N) = true → ofL N ws l = (0, [], 1)
  | [], _, h => by simp at h
  | e :: l, ws, h => by
    unfold ofL
    by_cases hc : e < 0 ∨ N ≤ e
    · rw [if_pos hc]
    · rw [if_neg hc]
      refine ofL_bad N l _ ?_
      rw [List.any_cons] at h
      have : badB N e = false := by
        unfold badB
        rw [decide_eq_false (by omega), decide_eq_false (by omega)]
        rfl
      rw [this, Bool.false_or] at h
      exact h
theorem of_calls (N : Int) (A : Option Addr) (c : Nat) (l : List Int) (w : World) (hr : Kd.C (Kd.int .i64) w A l.length l) (hl : l.length ≤ 140737488351232) (r1 : Int) (r2 : List Int) (r3 : Int) (h : ofS N l = (r1, r2, r3)) :
    Calls Tryd.prog 15 #[.int .i64 N, .slice A l.length c] w fun e w' => ∃ v, e = .returned (.tuple #[.agg #[.int .i64 r1, v], .int .i64 r3]) ∧ (Kd.int .u64).R 30 w' w.heap.size (fun _ => True) v r2 ∧ Below w.heap.size w w' := by
  by_cases hN : N < 0 ∨ 65536 < N
  · unfold ofS at h
    rw [if_pos hN] at h
    injection h with h3 h4
    injection h4 with h4 h5
    subst h3 h4 h5
    refine (of_bad1 N A c l w hN).mono ?_
    rintro e w' ⟨rfl, hb⟩
    exact ⟨_, rfl, Kd.R_nil _ _ _ _ _, hb⟩
  · cases hb : l.any (badB N) with
    | true =>
      unfold ofS at h
      rw [if_neg hN, ofL_bad N l _ hb] at h
      injection h with h3 h4
      injection h4 with h4 h5
      subst h3 h4 h5
      refine (of_bad2 N A c l w hr hl hN hb).mono ?_
      rintro e w' ⟨rfl, hb⟩
      exact ⟨_, rfl, Kd.R_nil _ _ _ _ _, hb⟩
    | false =>
      rw [ofS_good N l hN hb] at h
      injection h with h3 h4
      injection h4 with h4 h5
      subst h3 h4 h5
      exact of_good N A c l w hr hl hN hb
end Go.Proofs.YtdlkcohfgfnkbaaDoor.Bo
