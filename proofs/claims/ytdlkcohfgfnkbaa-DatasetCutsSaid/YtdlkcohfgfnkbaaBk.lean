/- Sets of bits: And, Or, Minus of the program: the walks. -/
import Derived.Test.YtdlkcohfgfnkbaaBj
namespace Go.Proofs.Ytdlkcohfgfnkbaa.Bj
open Go.RowKit Go.Proofs.Ytdlkcohfgfnkbaa.PBitsetJoins Go.Proofs.Ytdlkcohfgfnkbaa.Bp Go.Proofs.YtdlkcohfgfnkbaaW.PrintWords Go.Proofs.YtdlkcohfgfnkbaaW.PrintLast Go.Proofs.YtdlkcohfgfnkbaaW.PrintMore
set_option linter.unusedSimpArgs false
set_option linter.unusedVariables false

theorem joined14 (N M : Int) (A B : Option Addr) (ca cb : Nat) (a b : List Int) (w : World) (hra : Kd.C (Kd.int .u64) w A a.length a) (hca : a.length ≤ ca) (hrb : Kd.C (Kd.int .u64) w B b.length b) (hcb : b.length ≤ cb)
    (ha : Wf a) (hb : Wf b) (hla : a.length ≤ 140737488351232) (hlb : b.length ≤ 140737488351232) (r1 : Int) (r2 : List Int) (r3 : Int) (h : bothS true false false N a M b = (r1, r2, r3)) :
    Calls Try.prog 41 #[.agg #[.int .i64 N, .slice A a.length ca], .agg #[.int .i64 M, .slice B b.length cb], .func (.func 42) #[] #[]] w fun e w' => ∃ v, e = .returned (.tuple #[.agg #[.int .i64 r1, v], .int .i64 r3]) ∧ (Kd.int .u64).R 30 w' w.heap.size (fun _ => True) v r2 ∧ Below w.heap.size w w' := by
  by_cases hg : rightB N a = true ∧ rightB M b = true ∧ N = M
  · obtain ⟨h1, h2, rfl⟩ := hg
    rw [join_law op_and N a b ha hb h1 h2] at h
    injection h with h3 h4
    injection h4 with h4 h5
    subst h3 h4 h5
    exact join42 N N A B ca cb a b w hra hca hrb hcb ha hb hla hlb h1 h2
  · rw [join_no _ _ _ N M a b hg] at h
    injection h with h3 h4
    injection h4 with h4 h5
    subst h3 h4 h5
    refine (join_none _ N M A B ca cb a b w hra hca hrb hcb ha hb hla hlb hg).mono ?_
    rintro e w' ⟨rfl, hb⟩
    exact ⟨_, rfl, Kd.R_nil _ _ _ _ _, hb⟩
set_option maxRecDepth 100000 in
set_option maxHeartbeats 1000000 in
theorem calls14 (N M : Int) (A B : Option Addr) (ca cb : Nat) (a b : List Int) (w : World) (hra : Kd.C (Kd.int .u64) w A a.length a) (hca : a.length ≤ ca) (hrb : Kd.C (Kd.int .u64) w B b.length b) (hcb : b.length ≤ cb)
    (ha : Wf a) (hb : Wf b) (hla : a.length ≤ 140737488351232) (hlb : b.length ≤ 140737488351232) (r1 : Int) (r2 : List Int) (r3 : Int) (h : bothS true false false N a M b = (r1, r2, r3)) :
    Calls Try.prog 14 #[.agg #[.int .i64 N, .slice A a.length ca], .agg #[.int .i64 M, .slice B b.length cb]] w fun e w' => ∃ v, e = .returned (.tuple #[.agg #[.int .i64 r1, v], .int .i64 r3]) ∧ (Kd.int .u64).R 30 w' w.heap.size (fun _ => True) v r2 ∧ Below w.heap.size w w' := by
  have HRA := Aside0.mk hra
  have HRB := Aside0.mk hrb
  have H := Aside0.mk h
  clear hra hrb h
  go_enter Try.func14, Try.ntmps14
  go_wp2_with fail
  obtain ⟨W1, hW1⟩ : ∃ W, W = ((w.alloc (.cells #[.int .i64 N, .slice A a.length ca] 24)).alloc (.cells #[.int .i64 M, .slice B b.length cb] 24)).alloc (.cells #[.int .i64 0, .slice none 0 0] 24) := ⟨_, rfl⟩
  have hB1 : Below w.heap.size w W1 := by rw [hW1]; exact below_alloc (below_alloc (below_alloc (Below.refl _ _) _) _) _
  have kR : W1.heap[w.heap.size + 1 + 1]? = some (.cells #[.int .i64 0, .slice none 0 0] 24 (0, 0)) := by rw [hW1, ← World.size_alloc w (.cells #[.int .i64 N, .slice A a.length ca] 24), ← World.size_alloc _ (.cells #[.int .i64 M, .slice B b.length cb] 24)]; exact blk_new _ _
  rw [← hW1]
  clear hW1
  refine (joined14 N M A B ca cb a b _ (Kd.C_below HRA.out hB1) hca (Kd.C_below HRB.out hB1) hcb ha hb hla hlb r1 r2 r3 H.out).mono ?_
  rintro e w2 ⟨V, rfl, ho2, hb2⟩
  obtain ⟨A2, c2, rfl, hc2, hr2⟩ := Kd.R_reads ho2
  have k2 := blk_below kR hb2
  have c0 := (blk_cell k2 0).trans rfl
  have c1 := (blk_cell k2 1).trans rfl
  have f0 := blk_frozen k2 0
  have f1 := blk_frozen k2 1
  have K2 := Aside0.mk k2
  have HO := Aside0.mk ho2
  have HB2 := Aside0.mk (hB1.trans (hb2.mono hB1.size))
  have HS := Aside0.mk (blk_lt kR)
  have HS1 := Aside0.mk hB1.size
  clear k2 kR hb2 hB1 ho2 hr2 hc2
  go_wp2_with fail
  exact bodyPost_ret (results_ct rfl _ _ (w.heap.size + 1 + 1) 24 #[.int .i64 r1, .slice A2 r2.length c2] (0, 0) _ rfl (blk_put (cs := #[.int .i64 r1, .slice none 0 0]) (blk_put K2.out 0 _ rfl) 1 _ rfl) Try.underlying24 rfl (by kernel_rfl)) rfl ⟨_, rfl, R_set2 HO.out HS.out _ _ _ _ HS1.out, below_set (below_set HB2.out (by show w.heap.size ≤ w.heap.size + 1 + 1; omega)) (by show w.heap.size ≤ w.heap.size + 1 + 1; omega)⟩
theorem joined17 (N M : Int) (A B : Option Addr) (ca cb : Nat) (a b : List Int) (w : World) (hra : Kd.C (Kd.int .u64) w A a.length a) (hca : a.length ≤ ca) (hrb : Kd.C (Kd.int .u64) w B b.length b) (hcb : b.length ≤ cb)
    (ha : Wf a) (hb : Wf b) (hla : a.length ≤ 140737488351232) (hlb : b.length ≤ 140737488351232) (r1 : Int) (r2 : List Int) (r3 : Int) (h : bothS true true true N a M b = (r1, r2, r3)) :
    Calls Try.prog 41 #[.agg #[.int .i64 N, .slice A a.length ca], .agg #[.int .i64 M, .slice B b.length cb], .func (.func 44) #[] #[]] w fun e w' => ∃ v, e = .returned (.tuple #[.agg #[.int .i64 r1, v], .int .i64 r3]) ∧ (Kd.int .u64).R 30 w' w.heap.size (fun _ => True) v r2 ∧ Below w.heap.size w w' := by
  by_cases hg : rightB N a = true ∧ rightB M b = true ∧ N = M
  · obtain ⟨h1, h2, rfl⟩ := hg
    rw [join_law op_or N a b ha hb h1 h2] at h
    injection h with h3 h4
    injection h4 with h4 h5
    subst h3 h4 h5
    exact join44 N N A B ca cb a b w hra hca hrb hcb ha hb hla hlb h1 h2
  · rw [join_no _ _ _ N M a b hg] at h
    injection h with h3 h4
    injection h4 with h4 h5
    subst h3 h4 h5
    refine (join_none _ N M A B ca cb a b w hra hca hrb hcb ha hb hla hlb hg).mono ?_
    rintro e w' ⟨rfl, hb⟩
    exact ⟨_, rfl, Kd.R_nil _ _ _ _ _, hb⟩
set_option maxRecDepth 100000 in
set_option maxHeartbeats 1000000 in
theorem calls17 (N M : Int) (A B : Option Addr) (ca cb : Nat) (a b : List Int) (w : World) (hra : Kd.C (Kd.int .u64) w A a.length a) (hca : a.length ≤ ca) (hrb : Kd.C (Kd.int .u64) w B b.length b) (hcb : b.length ≤ cb)
    (ha : Wf a) (hb : Wf b) (hla : a.length ≤ 140737488351232) (hlb : b.length ≤ 140737488351232) (r1 : Int) (r2 : List Int) (r3 : Int) (h : bothS true true true N a M b = (r1, r2, r3)) :
    Calls Try.prog 17 #[.agg #[.int .i64 N, .slice A a.length ca], .agg #[.int .i64 M, .slice B b.length cb]] w fun e w' => ∃ v, e = .returned (.tuple #[.agg #[.int .i64 r1, v], .int .i64 r3]) ∧ (Kd.int .u64).R 30 w' w.heap.size (fun _ => True) v r2 ∧ Below w.heap.size w w' := by
  have HRA := Aside0.mk hra
  have HRB := Aside0.mk hrb
  have H := Aside0.mk h
  clear hra hrb h
  go_enter Try.func17, Try.ntmps17
  go_wp2_with fail
  obtain ⟨W1, hW1⟩ : ∃ W, W = ((w.alloc (.cells #[.int .i64 N, .slice A a.length ca] 24)).alloc (.cells #[.int .i64 M, .slice B b.length cb] 24)).alloc (.cells #[.int .i64 0, .slice none 0 0] 24) := ⟨_, rfl⟩
  have hB1 : Below w.heap.size w W1 := by rw [hW1]; exact below_alloc (below_alloc (below_alloc (Below.refl _ _) _) _) _
  have kR : W1.heap[w.heap.size + 1 + 1]? = some (.cells #[.int .i64 0, .slice none 0 0] 24 (0, 0)) := by rw [hW1, ← World.size_alloc w (.cells #[.int .i64 N, .slice A a.length ca] 24), ← World.size_alloc _ (.cells #[.int .i64 M, .slice B b.length cb] 24)]; exact blk_new _ _
  rw [← hW1]
  clear hW1
  refine (joined17 N M A B ca cb a b _ (Kd.C_below HRA.out hB1) hca (Kd.C_below HRB.out hB1) hcb ha hb hla hlb r1 r2 r3 H.out).mono ?_
  rintro e w2 ⟨V, rfl, ho2, hb2⟩
  obtain ⟨A2, c2, rfl, hc2, hr2⟩ := Kd.R_reads ho2
  have k2 := blk_below kR hb2
  have c0 := (blk_cell k2 0).trans rfl
  have c1 := (blk_cell k2 1).trans rfl
  have f0 := blk_frozen k2 0
  have f1 := blk_frozen k2 1
  have K2 := Aside0.mk k2
  have HO := Aside0.mk ho2
  have HB2 := Aside0.mk (hB1.trans (hb2.mono hB1.size))
  have HS := Aside0.mk (blk_lt kR)
  have HS1 := Aside0.mk hB1.size
  clear k2 kR hb2 hB1 ho2 hr2 hc2
  go_wp2_with fail
  exact bodyPost_ret (results_ct rfl _ _ (w.heap.size + 1 + 1) 24 #[.int .i64 r1, .slice A2 r2.length c2] (0, 0) _ rfl (blk_put (cs := #[.int .i64 r1, .slice none 0 0]) (blk_put K2.out 0 _ rfl) 1 _ rfl) Try.underlying24 rfl (by kernel_rfl)) rfl ⟨_, rfl, R_set2 HO.out HS.out _ _ _ _ HS1.out, below_set (below_set HB2.out (by show w.heap.size ≤ w.heap.size + 1 + 1; omega)) (by show w.heap.size ≤ w.heap.size + 1 + 1; omega)⟩
theorem joined19 (N M : Int) (A B : Option Addr) (ca cb : Nat) (a b : List Int) (w : World) (hra : Kd.C (Kd.int .u64) w A a.length a) (hca : a.length ≤ ca) (hrb : Kd.C (Kd.int .u64) w B b.length b) (hcb : b.length ≤ cb)
    (ha : Wf a) (hb : Wf b) (hla : a.length ≤ 140737488351232) (hlb : b.length ≤ 140737488351232) (r1 : Int) (r2 : List Int) (r3 : Int) (h : bothS false true false N a M b = (r1, r2, r3)) :
    Calls Try.prog 41 #[.agg #[.int .i64 N, .slice A a.length ca], .agg #[.int .i64 M, .slice B b.length cb], .func (.func 45) #[] #[]] w fun e w' => ∃ v, e = .returned (.tuple #[.agg #[.int .i64 r1, v], .int .i64 r3]) ∧ (Kd.int .u64).R 30 w' w.heap.size (fun _ => True) v r2 ∧ Below w.heap.size w w' := by
  by_cases hg : rightB N a = true ∧ rightB M b = true ∧ N = M
  · obtain ⟨h1, h2, rfl⟩ := hg
    rw [join_law op_minus N a b ha hb h1 h2] at h
    injection h with h3 h4
    injection h4 with h4 h5
    subst h3 h4 h5
    exact join45 N N A B ca cb a b w hra hca hrb hcb ha hb hla hlb h1 h2
  · rw [join_no _ _ _ N M a b hg] at h
    injection h with h3 h4
    injection h4 with h4 h5
    subst h3 h4 h5
    refine (join_none _ N M A B ca cb a b w hra hca hrb hcb ha hb hla hlb hg).mono ?_
    rintro e w' ⟨rfl, hb⟩
    exact ⟨_, rfl, Kd.R_nil _ _ _ _ _, hb⟩
set_option maxRecDepth 100000 in
set_option maxHeartbeats 1000000 in
theorem calls19 (N M : Int) (A B : Option Addr) (ca cb : Nat) (a b : List Int) (w : World) (hra : Kd.C (Kd.int .u64) w A a.length a) (hca : a.length ≤ ca) (hrb : Kd.C (Kd.int .u64) w B b.length b) (hcb : b.length ≤ cb)
    (ha : Wf a) (hb : Wf b) (hla : a.length ≤ 140737488351232) (hlb : b.length ≤ 140737488351232) (r1 : Int) (r2 : List Int) (r3 : Int) (h : bothS false true false N a M b = (r1, r2, r3)) :
    Calls Try.prog 19 #[.agg #[.int .i64 N, .slice A a.length ca], .agg #[.int .i64 M, .slice B b.length cb]] w fun e w' => ∃ v, e = .returned (.tuple #[.agg #[.int .i64 r1, v], .int .i64 r3]) ∧ (Kd.int .u64).R 30 w' w.heap.size (fun _ => True) v r2 ∧ Below w.heap.size w w' := by
  have HRA := Aside0.mk hra
  have HRB := Aside0.mk hrb
  have H := Aside0.mk h
  clear hra hrb h
  go_enter Try.func19, Try.ntmps19
  go_wp2_with fail
  obtain ⟨W1, hW1⟩ : ∃ W, W = ((w.alloc (.cells #[.int .i64 N, .slice A a.length ca] 24)).alloc (.cells #[.int .i64 M, .slice B b.length cb] 24)).alloc (.cells #[.int .i64 0, .slice none 0 0] 24) := ⟨_, rfl⟩
  have hB1 : Below w.heap.size w W1 := by rw [hW1]; exact below_alloc (below_alloc (below_alloc (Below.refl _ _) _) _) _
  have kR : W1.heap[w.heap.size + 1 + 1]? = some (.cells #[.int .i64 0, .slice none 0 0] 24 (0, 0)) := by rw [hW1, ← World.size_alloc w (.cells #[.int .i64 N, .slice A a.length ca] 24), ← World.size_alloc _ (.cells #[.int .i64 M, .slice B b.length cb] 24)]; exact blk_new _ _
  rw [← hW1]
  clear hW1
  refine (joined19 N M A B ca cb a b _ (Kd.C_below HRA.out hB1) hca (Kd.C_below HRB.out hB1) hcb ha hb hla hlb r1 r2 r3 H.out).mono ?_
  rintro e w2 ⟨V, rfl, ho2, hb2⟩
  obtain ⟨A2, c2, rfl, hc2, hr2⟩ := Kd.R_reads ho2
  have k2 := blk_below kR hb2
  have c0 := (blk_cell k2 0).trans rfl
  have c1 := (blk_cell k2 1).trans rfl
  have f0 := blk_frozen k2 0
  have f1 := blk_frozen k2 1
  have K2 := Aside0.mk k2
  have HO := Aside0.mk ho2
  have HB2 := Aside0.mk (hB1.trans (hb2.mono hB1.size))
  have HS := Aside0.mk (blk_lt kR)
  have HS1 := Aside0.mk hB1.size
  clear k2 kR hb2 hB1 ho2 hr2 hc2
  go_wp2_with fail
  exact bodyPost_ret (results_ct rfl _ _ (w.heap.size + 1 + 1) 24 #[.int .i64 r1, .slice A2 r2.length c2] (0, 0) _ rfl (blk_put (cs := #[.int .i64 r1, .slice none 0 0]) (blk_put K2.out 0 _ rfl) 1 _ rfl) Try.underlying24 rfl (by kernel_rfl)) rfl ⟨_, rfl, R_set2 HO.out HS.out _ _ _ _ HS1.out, below_set (below_set HB2.out (by show w.heap.size ≤ w.heap.size + 1 + 1; omega)) (by show w.heap.size ≤ w.heap.size + 1 + 1; omega)⟩
end Go.Proofs.Ytdlkcohfgfnkbaa.Bj
