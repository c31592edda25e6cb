/- BitsetJoins: the law's walk. -/
import Derived.Test.YtdlkcohfgfnkbaaBk
import Derived.Test.YtdlkcohfgfnkbaaOb
namespace Go.Proofs.Ytdlkcohfgfnkbaa.Bl
open Go.RowKit Go.Proofs.Ytdlkcohfgfnkbaa.PBitsetJoins Go.Proofs.Ytdlkcohfgfnkbaa.Bp Go.Proofs.Ytdlkcohfgfnkbaa.Bj Go.Proofs.Ytdlkcohfgfnkbaa.Ob Go.Proofs.YtdlkcohfgfnkbaaW.PrintWords Go.Proofs.YtdlkcohfgfnkbaaW.PrintLast Go.Proofs.YtdlkcohfgfnkbaaW.PrintMore
set_option linter.unusedSimpArgs false
set_option linter.unusedVariables false

theorem few_two (w : World) (N M : Int) (A B : Option Addr) (ca cb : Nat) (a b : List Int) (hca : a.length ≤ ca) (hcb : b.length ≤ cb) (hra : Kd.C (Kd.int .u64) w A a.length a) (hrb : Kd.C (Kd.int .u64) w B b.length b) (fr : Nat × Nat) :
    Kd.C k24 (w.alloc (.cells #[.int .i64 N, .slice A a.length ca, .int .i64 M, .slice B b.length cb] 24 fr)) (some ⟨w.heap.size, 0, none⟩) ([⟨N, a⟩, ⟨M, b⟩] : List S24).length [⟨N, a⟩, ⟨M, b⟩] := by
  refine ⟨rfl, by simp, fun _ => ⟨_, rfl, fun j p hj => ?_⟩⟩
  have hW := below_alloc (Below.refl _ w) (.cells #[.int .i64 N, .slice A a.length ca, .int .i64 M, .slice B b.length cb] 24 fr)
  match j, hj with
  | 0, hj =>
    obtain rfl := Option.some.inj hj
    refine ⟨[.int .i64 N, .slice A a.length ca], rfl, k24_mk _ ⟨N, a⟩ hca (Kd.C_below hra hW), fun i u hu => ?_⟩
    rw [add_plain, World.cell?_alloc_mark]
    match i, hu with
    | 0, hu => exact hu
    | 1, hu => exact hu
    | i + 2, hu => simp at hu
  | 1, hj =>
    obtain rfl := Option.some.inj hj
    refine ⟨[.int .i64 M, .slice B b.length cb], rfl, k24_mk _ ⟨M, b⟩ hcb (Kd.C_below hrb hW), fun i u hu => ?_⟩
    rw [add_plain, World.cell?_alloc_mark]
    match i, hu with
    | 0, hu => exact hu
    | 1, hu => exact hu
    | i + 2, hu => simp at hu
  | j + 2, hj => simp at hj

theorem both_len (x y z : Bool) (N M : Int) (a b : List Int) (ha : a.length ≤ 140737488351232) (hb : b.length ≤ 140737488351232) : (bothS x y z N a M b).2.1.length ≤ 140737488351232 := by
  unfold bothS
  split
  · rename_i h
    have h1 := right_len h.1
    unfold ofS
    rw [if_neg (by omega), ofL_good N _ _ (fun e he => by obtain ⟨j, rfl, h2, h3, _⟩ := (sel_mem _ _ _ _).1 he; omega)]
    show ((sel _ _ _).foldl (fun w e => setB w e.toNat) (List.replicate ((N + 63) / 64).toNat 0)).length ≤ _
    rw [fold_length, List.length_replicate]
    omega
  · exact Nat.zero_le _
theorem two_cells {W : World} {g t : Nat} {x y : Value} (h : W.heap[g]? = some (.cells #[x, y] t (0, 0))) : W.cell? ⟨g, 0, none⟩ = some x ∧ W.cell? ⟨g, 1, none⟩ = some y := ⟨blk_cell h 0, blk_cell h 1⟩
theorem two_frozen {W : World} {g t : Nat} {x y : Value} (h : W.heap[g]? = some (.cells #[x, y] t (0, 0))) : W.frozen? ⟨g, 0, none⟩ = false ∧ W.frozen? ⟨g, 1, none⟩ = false := ⟨blk_frozen h 0, blk_frozen h 1⟩
theorem R_put2 {w : World} {base g : Nat} {v : Value} {xs : List Int} {p q : Value} (h : (Kd.int .u64).R 30 w base (fun _ => True) v xs) (hb : w.heap[g]? = some (.cells #[p, q] 24 (0, 0))) (x y : Value) : (Kd.int .u64).R 30 ((w.setCell ⟨g, 0, none⟩ x).setCell ⟨g, 1, none⟩ y) base (fun _ => True) v xs :=
  Kd.R_set (Kd.R_set h hb (fun q hq => by simp [Kd.int, Kd.scalar] at hq; subst hq; decide) 0 x) (blk_set hb 0 x) (fun q hq => by simp [Kd.int, Kd.scalar] at hq; subst hq; decide) 1 y
/-- A row of numbers that was just laid. -/
theorem const_reads (w : World) (t : TypeId) (fr : Nat × Nat) (k : IntKind) (xs : List Int) (hl : xs.length ≤ 9223372036854775807) : Kd.C (Kd.int k) (w.alloc (.cells (xs.map (Value.int k)).toArray t fr)) (some ⟨w.heap.size, 0, none⟩) xs.length xs := by
  refine Kd.C_of_reads (d := (0 : Int)) (h1 := fun _ => rfl) ⟨rfl, hl, fun _ => ⟨_, rfl, fun j hj => ?_⟩⟩
  rw [Addr.add_mid, Nat.zero_add, World.cell?_alloc_mark]
  simp [hj]
theorem wf_one : Wf [1] := by intro x hx; simp at hx; subst hx; decide
theorem wf_zero : Wf [0] := by intro x hx; simp at hx; subst hx; decide
theorem both_one : bothS true true true 1 [1] 1 [0] = (1, [1], 0) := by
  rw [join_law op_or 1 [1] [0] wf_one wf_zero (by decide +kernel) (by decide +kernel)]
  rfl
set_option maxRecDepth 100000 in
set_option maxHeartbeats 1000000 in
theorem joins_calls (N M : Int) (a b : List Int) (A B : Option Addr) (ca cb : Nat) (w : World) (ha : IsBt w A ca (N, a)) (hb : IsBt w B cb (M, b)) :
    Calls Try.prog 3 #[.agg #[.int .i64 N, .slice A a.length ca], .agg #[.int .i64 M, .slice B b.length cb]] w fun e w' => e = .returned (.bool true) ∧ Below w.heap.size w w' := by
  have HA := Aside0.mk ha
  have HB := Aside0.mk hb
  obtain ⟨q, hq⟩ : ∃ q, ([⟨N, a⟩, ⟨M, b⟩] : List S24).all (fun s => decide (s.f1.length ≤ 2000)) = q := ⟨_, rfl⟩
  obtain ⟨kf, hkf⟩ := (ref_few [⟨N, a⟩, ⟨M, b⟩] (by simp)).rounds
  rw [hq] at hkf
  have HF := Aside0.mk hkf
  obtain ⟨⟨r1, r2, r3⟩, hr⟩ : ∃ r, bothS true false false N a M b = r := ⟨_, rfl⟩
  obtain ⟨k1, hk1⟩ := (ref_and N M a b ha.wf hb.wf ha.len hb.len).rounds
  obtain ⟨⟨s1, s2, s3⟩, hs⟩ : ∃ r, bothS true true true N a M b = r := ⟨_, rfl⟩
  obtain ⟨k2, hk2⟩ := (ref_or N M a b ha.wf hb.wf ha.len hb.len).rounds
  obtain ⟨⟨t1, t2, t3⟩, ht⟩ : ∃ r, bothS false true false N a M b = r := ⟨_, rfl⟩
  obtain ⟨k3, hk3⟩ := (ref_minus N M a b ha.wf hb.wf ha.len hb.len).rounds
  have lr := both_len true false false N M a b ha.len hb.len
  have ls := both_len true true true N M a b ha.len hb.len
  have lt := both_len false true false N M a b ha.len hb.len
  rw [hr] at hk1 lr
  rw [hs] at hk2 ls
  rw [ht] at hk3 lt
  obtain ⟨m1, hm1⟩ := (ref_same r1 r2 lr).rounds
  obtain ⟨m2, hm2⟩ := (ref_same s1 s2 ls).rounds
  obtain ⟨m3, hm3⟩ := (ref_same t1 t2 lt).rounds
  have H1 := Aside0.mk (And.intro hr (And.intro hk1 hm1))
  have H2 := Aside0.mk (And.intro hs (And.intro hk2 hm2))
  have H3 := Aside0.mk (And.intro ht (And.intro hk3 hm3))
  clear hr hs ht hk1 hk2 hk3 hm1 hm2 hm3 lr ls lt
  clear ha hb hq hkf
  go_enter Try.func3, Try.ntmps3
  go_wp2_with fail
  obtain ⟨W0, hW0⟩ : ∃ W, W = (w.alloc (.cells #[.int .i64 N, .slice A a.length ca] 24)).alloc (.cells #[.int .i64 M, .slice B b.length cb] 24) := ⟨_, rfl⟩
  have hz0 : W0.heap.size = w.heap.size + 1 + 1 := by rw [hW0, World.size_alloc, World.size_alloc]
  have hB0 : Below w.heap.size w W0 := by rw [hW0]; exact below_alloc (below_alloc (Below.refl _ _) _) _
  have kA : W0.heap[w.heap.size]? = some (.cells #[.int .i64 N, .slice A a.length ca] 24 (0, 0)) := by rw [hW0]; exact blk_alloc (blk_new w _) _
  have kB : W0.heap[w.heap.size + 1]? = some (.cells #[.int .i64 M, .slice B b.length cb] 24 (0, 0)) := by rw [hW0, ← World.size_alloc w (.cells #[.int .i64 N, .slice A a.length ca] 24)]; exact blk_new _ _
  have hfew := few_two W0 N M A B ca cb a b HA.out.cap HB.out.cap (Kd.C_below HA.out.reads hB0) (Kd.C_below HB.out.reads hB0) (0, 0)
  rw [← hz0, ← hW0]
  have HB0 := Aside0.mk hB0
  have HK0 := Aside0.mk (And.intro kA (And.intro kB hz0))
  refine (windbreaklaw14_few.calls kf (some ⟨W0.heap.size, 0, none⟩) 2 _ q _ hfew (by simp) HF.out).mono ?_
  rintro e w1 ⟨rfl, hd⟩
  have HB1 := Aside0.mk (below_alloc (Below.refl _ W0) _ |>.trans (hd.below.mono (below_alloc (Below.refl _ W0) _).size))
  clear hW0 hz0 kA kB hfew hB0 hd
  cases q with
  | false =>
    go_wp2_with fail
    go_ret
    exact ⟨rfl, HB0.out.trans (HB1.out.mono HB0.out.size)⟩
  | true =>
    have HA1 := Aside0.mk (blk_below HK0.out.1 HB1.out)
    have HA2 := Aside0.mk (blk_below HK0.out.2.1 HB1.out)
    have HW1 := Aside0.mk (HB0.out.trans (HB1.out.mono HB0.out.size))
    obtain ⟨c1, c2⟩ := two_cells HA1.out
    obtain ⟨c3, c4⟩ := two_cells HA2.out
    go_wp2_with fail
    refine (calls14 N M A B ca cb a b _ (Kd.C_below HA.out.reads HW1.out) HA.out.cap (Kd.C_below HB.out.reads HW1.out) HB.out.cap HA.out.wf HB.out.wf HA.out.len HB.out.len r1 r2 r3 H1.out.1).mono ?_
    rintro e w2 ⟨V2, rfl, ho2, hb2⟩
    obtain ⟨X2, x2, rfl, hx2, hr2⟩ := Kd.R_reads ho2
    have HR2 := Aside0.mk hr2
    have HB2 := Aside0.mk hb2
    obtain ⟨c1, c2⟩ := two_cells (blk_alloc (blk_below HA1.out hb2) (.cells #[.int .i64 r1, .slice X2 r2.length x2] 24))
    obtain ⟨c3, c4⟩ := two_cells (blk_alloc (blk_below HA2.out hb2) (.cells #[.int .i64 r1, .slice X2 r2.length x2] 24))
    go_wp2_with fail
    obtain ⟨W3, hW3⟩ : ∃ W, W = w2.alloc (.cells #[.int .i64 r1, .slice X2 r2.length x2] 24) := ⟨_, rfl⟩
    have HW3 := Aside0.mk (show Below w.heap.size w W3 by rw [hW3]; exact below_alloc (HW1.out.trans (hb2.mono HW1.out.size)) _)
    have KA := Aside0.mk (show W3.heap[w.heap.size]? = some (.cells #[.int .i64 N, .slice A a.length ca] 24 (0, 0)) by rw [hW3]; exact blk_alloc (blk_below HA1.out hb2) _)
    have KB := Aside0.mk (show W3.heap[w.heap.size + 1]? = some (.cells #[.int .i64 M, .slice B b.length cb] 24 (0, 0)) by rw [hW3]; exact blk_alloc (blk_below HA2.out hb2) _)
    have KX := Aside0.mk (show W3.heap[w2.heap.size]? = some (.cells #[.int .i64 r1, .slice X2 r2.length x2] 24 (0, 0)) by rw [hW3]; exact blk_new _ _)
    have HR3 := Aside0.mk (show (Kd.int .u64).C W3 X2 r2.length r2 by rw [hW3]; exact Kd.C_alloc hr2 _)
    have HG := Aside0.mk (show w.heap.size + 1 < w2.heap.size by have h1 := (blk_lt HA2.out); have h2 := hb2.size; omega)
    rw [← hW3]
    clear hW3 ho2 hb2 hr2 c1 c2 c3 c4 HR2 HB2
    refine (windbreakref14_And.calls k1 N A ca a M B cb b r1 r2 r3 _ (Kd.C_below HA.out.reads HW3.out) HA.out.cap (Kd.C_below HB.out.reads HW3.out) HB.out.cap H1.out.2.1).mono ?_
    rintro e w4 ⟨V4, rfl, ho4, hb4⟩
    obtain ⟨X4, x4, rfl, hx4, hr4⟩ := Kd.R_reads ho4
    obtain ⟨c1, c2⟩ := two_cells (blk_alloc (blk_below KX.out hb4) (.cells #[.int .i64 r1, .slice X4 r2.length x4] 24))
    go_wp2_with fail
    obtain ⟨W5, hW5⟩ : ∃ W, W = w4.alloc (.cells #[.int .i64 r1, .slice X4 r2.length x4] 24) := ⟨_, rfl⟩
    have HW5 := Aside0.mk (show Below w.heap.size w W5 by rw [hW5]; exact below_alloc (HW3.out.trans (hb4.mono HW3.out.size)) _)
    have HA5 := Aside0.mk (show W5.heap[w.heap.size]? = some (.cells #[.int .i64 N, .slice A a.length ca] 24 (0, 0)) by rw [hW5]; exact blk_alloc (blk_below KA.out hb4) _)
    have HB5 := Aside0.mk (show W5.heap[w.heap.size + 1]? = some (.cells #[.int .i64 M, .slice B b.length cb] 24 (0, 0)) by rw [hW5]; exact blk_alloc (blk_below KB.out hb4) _)
    have HX5 := Aside0.mk (show W5.heap[w2.heap.size]? = some (.cells #[.int .i64 r1, .slice X2 r2.length x2] 24 (0, 0)) by rw [hW5]; exact blk_alloc (blk_below KX.out hb4) _)
    have HY5 := Aside0.mk (show W5.heap[w4.heap.size]? = some (.cells #[.int .i64 r1, .slice X4 r2.length x4] 24 (0, 0)) by rw [hW5]; exact blk_new _ _)
    have HR5 := Aside0.mk (show (Kd.int .u64).C W5 X2 r2.length r2 ∧ (Kd.int .u64).C W5 X4 r2.length r2 by rw [hW5]; exact ⟨Kd.C_alloc (Kd.C_below HR3.out hb4) _, Kd.C_alloc hr4 _⟩)
    have HG5 := Aside0.mk (show w2.heap.size < w4.heap.size by have h1 := (blk_lt KX.out); have h2 := hb4.size; omega)
    rw [← hW5]
    clear hW5 ho4 hb4 hr4 c1 c2 HR3 KA KB KX HA1 HA2 HW3
    refine (windbreakref14_Same.calls m1 r1 X2 x2 r2 r1 X4 x4 r2 true _ HR5.out.1 hx2 HR5.out.2 hx4 H1.out.2.2).mono ?_
    rintro e w6 ⟨rfl, hb6⟩
    have HW6 := Aside0.mk (HW5.out.trans (hb6.mono HW5.out.size))
    have HA6 := Aside0.mk (blk_below HA5.out hb6)
    have HB6 := Aside0.mk (blk_below HB5.out hb6)
    have HX6 := Aside0.mk (blk_below HX5.out hb6)
    have HY6 := Aside0.mk (blk_below HY5.out hb6)
    clear hb6 HA5 HB5 HX5 HY5 HR5 HW5
    obtain ⟨c1, c2⟩ := two_cells HA6.out
    obtain ⟨c3, c4⟩ := two_cells HB6.out
    go_wp2_with fail
    refine (calls17 N M A B ca cb a b _ (Kd.C_below HA.out.reads HW6.out) HA.out.cap (Kd.C_below HB.out.reads HW6.out) HB.out.cap HA.out.wf HB.out.wf HA.out.len HB.out.len s1 s2 s3 H2.out.1).mono ?_
    rintro e w7a ⟨V7, rfl, ho7, hb7⟩
    obtain ⟨X7a, x7a, rfl, hx7a, hr7⟩ := Kd.R_reads ho7
    have HA7 := Aside0.mk (blk_far (blk_far (blk_below HA6.out hb7) (p := ⟨w2.heap.size, 0, none⟩) (show w.heap.size ≠ w2.heap.size by have := HG.out; omega) (.int .i64 s1)) (p := ⟨w2.heap.size, 1, none⟩) (show w.heap.size ≠ w2.heap.size by have := HG.out; omega) (.slice X7a s2.length x7a))
    have HB7 := Aside0.mk (blk_far (blk_far (blk_below HB6.out hb7) (p := ⟨w2.heap.size, 0, none⟩) (show w.heap.size + 1 ≠ w2.heap.size by have := HG.out; omega) (.int .i64 s1)) (p := ⟨w2.heap.size, 1, none⟩) (show w.heap.size + 1 ≠ w2.heap.size by have := HG.out; omega) (.slice X7a s2.length x7a))
    have HY7 := Aside0.mk (blk_far (blk_far (blk_below HY6.out hb7) (p := ⟨w2.heap.size, 0, none⟩) (show w4.heap.size ≠ w2.heap.size by have := HG5.out; omega) (.int .i64 s1)) (p := ⟨w2.heap.size, 1, none⟩) (show w4.heap.size ≠ w2.heap.size by have := HG5.out; omega) (.slice X7a s2.length x7a))
    have HX7 := Aside0.mk (blk_put (cs' := #[.int .i64 s1, .slice X7a s2.length x7a]) (blk_put (cs' := #[.int .i64 s1, .slice X2 r2.length x2]) (blk_below HX6.out hb7) 0 (.int .i64 s1) rfl) 1 (.slice X7a s2.length x7a) rfl)
    have HW7 := Aside0.mk (below_set (j := 1) (v := .slice X7a s2.length x7a) (below_set (j := 0) (v := .int .i64 s1) (HW6.out.trans (hb7.mono HW6.out.size)) (show w.heap.size ≤ w2.heap.size by have := HG.out; omega)) (show w.heap.size ≤ w2.heap.size by have := HG.out; omega))
    have HR7 := Aside0.mk (R_put2 ho7 (blk_below HX6.out hb7) (.int .i64 s1) (.slice X7a s2.length x7a))
    obtain ⟨f1, f2⟩ := two_frozen (blk_below HX6.out hb7)
    obtain ⟨c1, c2⟩ := two_cells HA7.out
    obtain ⟨c3, c4⟩ := two_cells HB7.out
    obtain ⟨c5, c6⟩ := two_cells (blk_below HX6.out hb7)
    clear ho7 hb7 hr7 HA6 HB6 HX6 HW6 HY6
    go_wp2_with fail
    generalize ((w7a.setCell ⟨w2.heap.size, 0, none⟩ (.int .i64 s1)).setCell ⟨w2.heap.size, 1, none⟩ (.slice X7a s2.length x7a)) = W7a at HA7 HB7 HX7 HY7 HW7 HR7 c1 c2 c3 c4 ⊢
    clear c1 c2 c3 c4 c5 c6 f1 f2
    refine (windbreakref14_Or.calls k2 N A ca a M B cb b s1 s2 s3 _ (Kd.C_below HA.out.reads HW7.out) HA.out.cap (Kd.C_below HB.out.reads HW7.out) HB.out.cap H2.out.2.1).mono ?_
    rintro e w8a ⟨V8, rfl, ho8, hb8⟩
    obtain ⟨X8a, x8a, rfl, hx8a, hr8⟩ := Kd.R_reads ho8
    have HA8 := Aside0.mk (blk_far (blk_far (blk_below HA7.out hb8) (p := ⟨w4.heap.size, 0, none⟩) (show w.heap.size ≠ w4.heap.size by have := HG.out; have := HG5.out; omega) (.int .i64 s1)) (p := ⟨w4.heap.size, 1, none⟩) (show w.heap.size ≠ w4.heap.size by have := HG.out; have := HG5.out; omega) (.slice X8a s2.length x8a))
    have HB8 := Aside0.mk (blk_far (blk_far (blk_below HB7.out hb8) (p := ⟨w4.heap.size, 0, none⟩) (show w.heap.size + 1 ≠ w4.heap.size by have := HG.out; have := HG5.out; omega) (.int .i64 s1)) (p := ⟨w4.heap.size, 1, none⟩) (show w.heap.size + 1 ≠ w4.heap.size by have := HG.out; have := HG5.out; omega) (.slice X8a s2.length x8a))
    have HX8 := Aside0.mk (blk_far (blk_far (blk_below HX7.out hb8) (p := ⟨w4.heap.size, 0, none⟩) (show w2.heap.size ≠ w4.heap.size by have := HG5.out; omega) (.int .i64 s1)) (p := ⟨w4.heap.size, 1, none⟩) (show w2.heap.size ≠ w4.heap.size by have := HG5.out; omega) (.slice X8a s2.length x8a))
    have HY8 := Aside0.mk (blk_put (cs' := #[.int .i64 s1, .slice X8a s2.length x8a]) (blk_put (cs' := #[.int .i64 s1, .slice X4 r2.length x4]) (blk_below HY7.out hb8) 0 (.int .i64 s1) rfl) 1 (.slice X8a s2.length x8a) rfl)
    have HW8 := Aside0.mk (below_set (j := 1) (v := .slice X8a s2.length x8a) (below_set (j := 0) (v := .int .i64 s1) (HW7.out.trans (hb8.mono HW7.out.size)) (show w.heap.size ≤ w4.heap.size by have := HG.out; have := HG5.out; omega)) (show w.heap.size ≤ w4.heap.size by have := HG.out; have := HG5.out; omega))
    have HR8 := Aside0.mk (R_put2 ho8 (blk_below HY7.out hb8) (.int .i64 s1) (.slice X8a s2.length x8a))
    have HRX8 := Aside0.mk (R_put2 (Kd.R_below HR7.out hb8) (blk_below HY7.out hb8) (.int .i64 s1) (.slice X8a s2.length x8a))
    obtain ⟨f1, f2⟩ := two_frozen (blk_below HY7.out hb8)
    obtain ⟨c1, c2⟩ := two_cells HX8.out
    obtain ⟨c3, c4⟩ := two_cells HY8.out
    obtain ⟨c5, c6⟩ := two_cells (blk_below HY7.out hb8)
    clear ho8 hb8 hr8 HA7 HB7 HX7 HW7 HY7 HR7
    go_wp2_with fail
    generalize ((w8a.setCell ⟨w4.heap.size, 0, none⟩ (.int .i64 s1)).setCell ⟨w4.heap.size, 1, none⟩ (.slice X8a s2.length x8a)) = W8a at HA8 HB8 HX8 HY8 HW8 HR8 HRX8 c1 c2 c3 c4 ⊢
    clear c1 c2 c3 c4 c5 c6 f1 f2
    refine (windbreakref14_Same.calls m2 s1 X7a x7a s2 s1 X8a x8a s2 true _ (Kd.R_reads' HRX8.out).2.2 hx7a (Kd.R_reads' HR8.out).2.2 hx8a H2.out.2.2).mono ?_
    rintro e w9a ⟨rfl, hb9⟩
    have HW6 := Aside0.mk (HW8.out.trans (hb9.mono HW8.out.size))
    have HA6 := Aside0.mk (blk_below HA8.out hb9)
    have HB6 := Aside0.mk (blk_below HB8.out hb9)
    have HX6 := Aside0.mk (blk_below HX8.out hb9)
    have HY6 := Aside0.mk (blk_below HY8.out hb9)
    clear hb9 HA8 HB8 HX8 HY8 HR8 HRX8 HW8
    obtain ⟨c1, c2⟩ := two_cells HA6.out
    obtain ⟨c3, c4⟩ := two_cells HB6.out
    go_wp2_with fail
    refine (calls19 N M A B ca cb a b _ (Kd.C_below HA.out.reads HW6.out) HA.out.cap (Kd.C_below HB.out.reads HW6.out) HB.out.cap HA.out.wf HB.out.wf HA.out.len HB.out.len t1 t2 t3 H3.out.1).mono ?_
    rintro e w7b ⟨V7, rfl, ho7, hb7⟩
    obtain ⟨X7b, x7b, rfl, hx7b, hr7⟩ := Kd.R_reads ho7
    have HA7 := Aside0.mk (blk_far (blk_far (blk_below HA6.out hb7) (p := ⟨w2.heap.size, 0, none⟩) (show w.heap.size ≠ w2.heap.size by have := HG.out; omega) (.int .i64 t1)) (p := ⟨w2.heap.size, 1, none⟩) (show w.heap.size ≠ w2.heap.size by have := HG.out; omega) (.slice X7b t2.length x7b))
    have HB7 := Aside0.mk (blk_far (blk_far (blk_below HB6.out hb7) (p := ⟨w2.heap.size, 0, none⟩) (show w.heap.size + 1 ≠ w2.heap.size by have := HG.out; omega) (.int .i64 t1)) (p := ⟨w2.heap.size, 1, none⟩) (show w.heap.size + 1 ≠ w2.heap.size by have := HG.out; omega) (.slice X7b t2.length x7b))
    have HY7 := Aside0.mk (blk_far (blk_far (blk_below HY6.out hb7) (p := ⟨w2.heap.size, 0, none⟩) (show w4.heap.size ≠ w2.heap.size by have := HG5.out; omega) (.int .i64 t1)) (p := ⟨w2.heap.size, 1, none⟩) (show w4.heap.size ≠ w2.heap.size by have := HG5.out; omega) (.slice X7b t2.length x7b))
    have HX7 := Aside0.mk (blk_put (cs' := #[.int .i64 t1, .slice X7b t2.length x7b]) (blk_put (cs' := #[.int .i64 t1, .slice X7a s2.length x7a]) (blk_below HX6.out hb7) 0 (.int .i64 t1) rfl) 1 (.slice X7b t2.length x7b) rfl)
    have HW7 := Aside0.mk (below_set (j := 1) (v := .slice X7b t2.length x7b) (below_set (j := 0) (v := .int .i64 t1) (HW6.out.trans (hb7.mono HW6.out.size)) (show w.heap.size ≤ w2.heap.size by have := HG.out; omega)) (show w.heap.size ≤ w2.heap.size by have := HG.out; omega))
    have HR7 := Aside0.mk (R_put2 ho7 (blk_below HX6.out hb7) (.int .i64 t1) (.slice X7b t2.length x7b))
    obtain ⟨f1, f2⟩ := two_frozen (blk_below HX6.out hb7)
    obtain ⟨c1, c2⟩ := two_cells HA7.out
    obtain ⟨c3, c4⟩ := two_cells HB7.out
    obtain ⟨c5, c6⟩ := two_cells (blk_below HX6.out hb7)
    clear ho7 hb7 hr7 HA6 HB6 HX6 HW6 HY6
    go_wp2_with fail
    generalize ((w7b.setCell ⟨w2.heap.size, 0, none⟩ (.int .i64 t1)).setCell ⟨w2.heap.size, 1, none⟩ (.slice X7b t2.length x7b)) = W7b at HA7 HB7 HX7 HY7 HW7 HR7 c1 c2 c3 c4 ⊢
    clear c1 c2 c3 c4 c5 c6 f1 f2
    refine (windbreakref14_Minus.calls k3 N A ca a M B cb b t1 t2 t3 _ (Kd.C_below HA.out.reads HW7.out) HA.out.cap (Kd.C_below HB.out.reads HW7.out) HB.out.cap H3.out.2.1).mono ?_
    rintro e w8b ⟨V8, rfl, ho8, hb8⟩
    obtain ⟨X8b, x8b, rfl, hx8b, hr8⟩ := Kd.R_reads ho8
    have HA8 := Aside0.mk (blk_far (blk_far (blk_below HA7.out hb8) (p := ⟨w4.heap.size, 0, none⟩) (show w.heap.size ≠ w4.heap.size by have := HG.out; have := HG5.out; omega) (.int .i64 t1)) (p := ⟨w4.heap.size, 1, none⟩) (show w.heap.size ≠ w4.heap.size by have := HG.out; have := HG5.out; omega) (.slice X8b t2.length x8b))
    have HB8 := Aside0.mk (blk_far (blk_far (blk_below HB7.out hb8) (p := ⟨w4.heap.size, 0, none⟩) (show w.heap.size + 1 ≠ w4.heap.size by have := HG.out; have := HG5.out; omega) (.int .i64 t1)) (p := ⟨w4.heap.size, 1, none⟩) (show w.heap.size + 1 ≠ w4.heap.size by have := HG.out; have := HG5.out; omega) (.slice X8b t2.length x8b))
    have HX8 := Aside0.mk (blk_far (blk_far (blk_below HX7.out hb8) (p := ⟨w4.heap.size, 0, none⟩) (show w2.heap.size ≠ w4.heap.size by have := HG5.out; omega) (.int .i64 t1)) (p := ⟨w4.heap.size, 1, none⟩) (show w2.heap.size ≠ w4.heap.size by have := HG5.out; omega) (.slice X8b t2.length x8b))
    have HY8 := Aside0.mk (blk_put (cs' := #[.int .i64 t1, .slice X8b t2.length x8b]) (blk_put (cs' := #[.int .i64 t1, .slice X8a s2.length x8a]) (blk_below HY7.out hb8) 0 (.int .i64 t1) rfl) 1 (.slice X8b t2.length x8b) rfl)
    have HW8 := Aside0.mk (below_set (j := 1) (v := .slice X8b t2.length x8b) (below_set (j := 0) (v := .int .i64 t1) (HW7.out.trans (hb8.mono HW7.out.size)) (show w.heap.size ≤ w4.heap.size by have := HG.out; have := HG5.out; omega)) (show w.heap.size ≤ w4.heap.size by have := HG.out; have := HG5.out; omega))
    have HR8 := Aside0.mk (R_put2 ho8 (blk_below HY7.out hb8) (.int .i64 t1) (.slice X8b t2.length x8b))
    have HRX8 := Aside0.mk (R_put2 (Kd.R_below HR7.out hb8) (blk_below HY7.out hb8) (.int .i64 t1) (.slice X8b t2.length x8b))
    obtain ⟨f1, f2⟩ := two_frozen (blk_below HY7.out hb8)
    obtain ⟨c1, c2⟩ := two_cells HX8.out
    obtain ⟨c3, c4⟩ := two_cells HY8.out
    obtain ⟨c5, c6⟩ := two_cells (blk_below HY7.out hb8)
    clear ho8 hb8 hr8 HA7 HB7 HX7 HW7 HY7 HR7
    go_wp2_with fail
    generalize ((w8b.setCell ⟨w4.heap.size, 0, none⟩ (.int .i64 t1)).setCell ⟨w4.heap.size, 1, none⟩ (.slice X8b t2.length x8b)) = W8b at HA8 HB8 HX8 HY8 HW8 HR8 HRX8 c1 c2 c3 c4 ⊢
    clear c1 c2 c3 c4 c5 c6 f1 f2
    refine (windbreakref14_Same.calls m3 t1 X7b x7b t2 t1 X8b x8b t2 true _ (Kd.R_reads' HRX8.out).2.2 hx7b (Kd.R_reads' HR8.out).2.2 hx8b H3.out.2.2).mono ?_
    rintro e w9b ⟨rfl, hb9⟩
    have HW6 := Aside0.mk (HW8.out.trans (hb9.mono HW8.out.size))
    have HA6 := Aside0.mk (blk_below HA8.out hb9)
    have HB6 := Aside0.mk (blk_below HB8.out hb9)
    have HX6 := Aside0.mk (blk_below HX8.out hb9)
    have HY6 := Aside0.mk (blk_below HY8.out hb9)
    clear hb9 HA8 HB8 HX8 HY8 HR8 HRX8 HW8
    obtain ⟨c1, c2⟩ := two_cells HA6.out
    obtain ⟨c3, c4⟩ := two_cells HB6.out
    go_wp2_with fail
    have HD1 := Aside0.mk (Kd.C_alloc (const_reads w9b 30 (0, 0) .u64 [1] (by simp)) (.cells #[.int .u64 0] 30))
    have HD2 := Aside0.mk (const_reads (w9b.alloc (.cells #[.int .u64 1] 30)) 30 (0, 0) .u64 [0] (by simp))
    rw [World.size_alloc] at HD2
    refine (calls17 1 1 (some ⟨w9b.heap.size, 0, none⟩) (some ⟨w9b.heap.size + 1, 0, none⟩) 1 1 [1] [0] _ HD1.out (by simp) HD2.out (by simp) wf_one wf_zero (by simp) (by simp) 1 [1] 0 both_one).mono ?_
    rintro e w10 ⟨V10, rfl, ho10, hb10⟩
    obtain ⟨X10, x10, rfl, hx10, _⟩ := Kd.R_reads ho10
    have HW10 := Aside0.mk ((below_alloc (below_alloc HW6.out (.cells #[.int .u64 1] 30)) (.cells #[.int .u64 0] 30)).trans (hb10.mono (below_alloc (below_alloc HW6.out (.cells #[.int .u64 1] 30)) (.cells #[.int .u64 0] 30)).size))
    clear ho10 hb10 HD1 HD2 c1 c2 c3 c4
    go_wp2_with fail
    go_ret
    exact ⟨rfl, below_alloc HW10.out _⟩
theorem joins_walk (x y : Bt × Option Addr × Nat) (w : World) (hx : IsBt w x.2.1 x.2.2 x.1) (hy : IsBt w y.2.1 y.2.2 y.1) :
    Calls Try.prog 3 #[.agg #[.int .i64 x.1.1, .slice x.2.1 x.1.2.length x.2.2], .agg #[.int .i64 y.1.1, .slice y.2.1 y.1.2.length y.2.2]] w fun e w' => e = .returned (.bool true) ∧ Below w.heap.size w w' :=
  joins_calls x.1.1 y.1.1 x.1.2 y.1.2 x.2.1 y.2.1 x.2.2 y.2.2 w hx hy
end Go.Proofs.Ytdlkcohfgfnkbaa.Bl
