/- Parts of the proof of LinkScripts, merged: each is proved for all its inputs. -/
import Derived.Test.YtekakngojhnleaaMgLinkScriptse
import Derived.Test.YtekakngojhnleaaMgLinkScriptsd
import Derived.Lib.Bytes
import Derived.Test.YtekakngojhnleaaMgLinkScriptsa
/- The document's reader: Left and Bytes. -/
namespace Go.Proofs.Ytekakngojhnleaa.Rd
set_option linter.unusedSimpArgs false
set_option linter.unusedVariables false
open Go.RowKit Go.Proofs.Ytekakngojhnleaa.Rf Go.Proofs.YtekakngojhnleaaW.PrintWords Go.Proofs.YtekakngojhnleaaW.PrintLast Go.Proofs.YtekakngojhnleaaW.PrintMore

/-- What is left, as the document's reader tells it. -/
theorem ref_left (xs : List Int) (hl : xs.length ≤ 140737488351232) (a : Nat) (ha : a ≤ xs.length) : windbreakref09_Reader_Left.f xs (a : Int) = some (((xs.drop a).length : Int), (a : Int)) := by
  unfold windbreakref09_Reader_Left.f
  have e : wrap64 ((xs.length : Int) - (a : Int)) = ((xs.drop a).length : Int) := by rw [List.length_drop]; unfold wrap64; omega
  rw [e]

theorem row_kept {w0 W W' : World} {h : Nat} {xs r : List Int} {b : Int} {base : Nat} {v : Value} (ho : (Kd.int .u8).R 5 W base (fun _ => True) v r) (hI : IsS118 w0 W h xs b) (hK : KeepBut W W' h none) : (Kd.int .u8).R 5 W' base (fun k => True ∧ k ≠ h) v r := by
  obtain ⟨A, c, hb, _, _⟩ := hI
  refine Kd.R_keep (Kd.R_types ho hb ?_) hK (fun k hk => hk.2)
  intro q hq
  simp [Kd.int, Kd.scalar] at hq
  subst hq
  decide

/-- Bytes: both readers. -/
theorem ref_bytes (xs : List Int) (hb : ∀ c ∈ xs, 0 ≤ c ∧ c < 256) (hlen : xs.length ≤ 140737488355328) (a : Nat) (hat : a ≤ xs.length) (most : Int) (hmost : most < 9223372036854775808) (w0 : World) (h : Nat) :
    ∃ x e a', a' ≤ xs.length ∧ rByt most (xs.drop a) = (x, e, xs.drop a') ∧ ∀ W, IsS118 w0 W h xs (a : Int) → Below w0.heap.size w0 W →
      Calls Try.prog 69 #[.pointer (some ⟨h, 0, none⟩), .int .i64 most] W fun e' w' => ∃ v, e' = .returned (.tuple #[v, .int .i64 e]) ∧ (Kd.int .u8).R 5 w' W.heap.size (fun _ => True) v x ∧ IsS118 w0 w' h xs (a' : Int) ∧ Below w0.heap.size w0 w' ∧ KeepBut W w' h none := by
  have hn := ref_next xs hb (by omega) a hat
  have hle := nx_le (xs.drop a) 0 0
  have hr := nx_range (xs.drop a) 0 0
  simp only [List.length_drop] at hle
  unfold rByt
  obtain ⟨n', m, hx⟩ : ∃ n m, nx 0 0 (xs.drop a) = (n, m) := ⟨_, _, rfl⟩
  rw [hx] at hn hle hr ⊢
  simp only at hr hle hn
  obtain ⟨n, rfl⟩ := Int.eq_ofNat_of_zero_le hr.1
  have no : ∀ W, (m = 0 ∨ most < 0 ∨ (0 ≤ most ∧ IntKind.u64.wrap most = most ∧ most < (n : Int)) ∨ (0 ≤ most ∧ (n : Int) ≤ IntKind.u64.wrap most ∧ (xs.length : Int) - (a : Int) - (m : Int) < (n : Int))) → IsS118 w0 W h xs (a : Int) → Below w0.heap.size w0 W →
      Calls Try.prog 69 #[.pointer (some ⟨h, 0, none⟩), .int .i64 most] W fun e' w' => ∃ v, e' = .returned (.tuple #[v, .int .i64 13]) ∧ (Kd.int .u8).R 5 w' W.heap.size (fun _ => True) v [] ∧ IsS118 w0 w' h xs (a : Int) ∧ Below w0.heap.size w0 w' ∧ KeepBut W w' h none := by
    intro W hc hI hB
    refine (fbytes_no h xs a n m most w0 W hI hB hlen (by omega) hn hc).mono ?_
    rintro e w' ⟨rfl, h1, h2, h3⟩
    exact ⟨_, rfl, Kd.R_nil _ _ _ _ _, h1, h2, h3⟩
  by_cases h0 : m = 0
  · exact ⟨[], 13, a, hat, by rw [if_pos (.inl h0)], fun W => no W (.inl h0)⟩
  · by_cases h1 : most < 0
    · exact ⟨[], 13, a, hat, by rw [if_pos (.inr (.inl h1))], fun W => no W (.inr (.inl h1))⟩
    · have hw : IntKind.u64.wrap most = most := by rw [IntKind.wrap_u64]; omega
      by_cases h2 : most < (n : Int)
      · exact ⟨[], 13, a, hat, by rw [if_pos (.inr (.inr (.inl h2)))], fun W => no W (.inr (.inr (.inl ⟨by omega, hw, h2⟩)))⟩
      · by_cases h3 : (xs.length : Int) - (a : Int) - (m : Int) < (n : Int)
        · exact ⟨[], 13, a, hat, by rw [if_pos (.inr (.inr (.inr (by rw [List.length_drop]; omega))))], fun W => no W (.inr (.inr (.inr ⟨by omega, by rw [hw]; omega, h3⟩)))⟩
        · obtain ⟨M, rfl⟩ := Int.eq_ofNat_of_zero_le (show 0 ≤ most by omega)
          have hc : ¬ (m = 0 ∨ (M : Int) < 0 ∨ (M : Int) < (n : Int) ∨ ((xs.drop a).length : Int) - (m : Int) < (n : Int)) := by rw [List.length_drop]; omega
          refine ⟨(xs.drop (a + m)).take n, 0, a + m + n, by omega, ?_, fun W hI hB => fbytes_yes h xs a n m M w0 W hI hB hlen hn (by omega) hw (by omega) (by omega)⟩
          rw [if_neg hc, drop_at, Int.toNat_natCast, drop_at, Nat.add_assoc]


end Go.Proofs.Ytekakngojhnleaa.Rd
/- FrameDecodes: the document's Decode. -/
namespace Go.Proofs.Ytekakngojhnleaa.De
set_option linter.unusedSimpArgs false
set_option linter.unusedVariables false
open Go.RowKit Go.Proofs.Ytekakngojhnleaa.Fns Go.Proofs.Ytekakngojhnleaa.Rf Go.Proofs.Ytekakngojhnleaa.Rd Go.Proofs.Ytekakngojhnleaa.Rt Go.Proofs.Ytekakngojhnleaa.Fs Go.Proofs.Ytekakngojhnleaa.Fp Go.Proofs.Ytekakngojhnleaa.En Go.Proofs.Ytekakngojhnleaa.Of Go.Proofs.Ytekakngojhnleaa.Ew Go.Proofs.YtekakngojhnleaaW.PrintWords Go.Proofs.YtekakngojhnleaaW.PrintLast Go.Proofs.YtekakngojhnleaaW.PrintMore

set_option maxRecDepth 100000 in
set_option maxHeartbeats 1000000 in
theorem refdecode_short (A : Option Addr) (c : Nat) (l : List Int) (w : World) (h : l.length < 5) :
    Calls Try.prog 29 #[.slice A l.length c] w fun e w' => e = .returned (.tuple #[.agg zeroV, .int .i64 14]) ∧ Below w.heap.size w w' := by
  have h1 : (l.length : Int) < 5 := by omega
  clear h
  go_enter Try.func29, Try.ntmps29
  go_wp2_with fail
  refine bodyPost_ret (v := .tuple #[.agg zeroV, .int .i64 14]) (ret_cell rfl _ _ w.heap.size 53 zeroV (0, 0) _ rfl rfl (heap_alloc_new w _) rfl) rfl ?_
  exact ⟨rfl, below_alloc (Below.refl _ _) _⟩
set_option maxRecDepth 100000 in
set_option maxHeartbeats 1000000 in
theorem refdecode_two (A : Option Addr) (c : Nat) (l : List Int) (w : World) (hr : Kd.C (Kd.int .u8) w A l.length l) (h : 5 ≤ l.length) (h2 : 1 < rd l 0) :
    Calls Try.prog 29 #[.slice A l.length c] w fun e w' => e = .returned (.tuple #[.agg zeroV, .int .i64 14]) ∧ Below w.heap.size w w' := by
  have h1 : ¬ (l.length : Int) < 5 := by omega
  have hlt : (0 : Int) < (l.length : Int) := by omega
  have hB : Below w.heap.size w (w.alloc (.cells zeroV 53)) := below_alloc (Below.refl _ _) _
  obtain ⟨ad, rfl, hc⟩ := Kd.at_int (Kd.C_below hr hB) 0 (by omega) (by omega)
  change (w.alloc (.cells zeroV 53)).cell? (ad.add 0) = _ at hc
  have h0 : ad.add 0 = ad := by simp [Addr.add]
  rw [h0] at hc
  have H := Aside0.mk hr
  clear h hr
  go_enter Try.func29, Try.ntmps29
  go_wp2_with fail
  refine bodyPost_ret (v := .tuple #[.agg zeroV, .int .i64 14]) (ret_cell rfl _ _ w.heap.size 53 zeroV (0, 0) _ rfl rfl (heap_alloc_new w _) rfl) rfl ?_
  exact ⟨rfl, hB⟩

theorem rByt_bytes (most : Int) (xs : List Int) (hb : ∀ x ∈ xs, 0 ≤ x ∧ x < 256) {x : List Int} {e : Int} {ys : List Int} (h : rByt most xs = (x, e, ys)) : ∀ y ∈ x, 0 ≤ y ∧ y < 256 := by
  unfold rByt at h
  split at h
  · injection h with h1 h2
    subst h1
    intro y hy
    exact absurd hy List.not_mem_nil
  · injection h with h1 h2
    subst h1
    intro y hy
    exact hb y (List.mem_of_mem_drop (List.mem_of_mem_take hy))
theorem rByt_len (most : Int) (xs : List Int) {x : List Int} {e : Int} {ys : List Int} (h : rByt most xs = (x, e, ys)) : x.length ≤ xs.length := by
  unfold rByt at h
  split at h
  · injection h with h1 h2
    subst h1
    exact Nat.zero_le _
  · injection h with h1 h2
    subst h1
    simp
    omega
theorem C_str {w : World} {A : Option Addr} {n c : Nat} {xs : List Int} (h : (Kd.int .u8).C w A n xs) : (convert 30 9 (.slice A n c)).run Try.prog w = .ok (.string (strOfNums xs)) w := by
  exact Kd.C_string Try.underlying30 Try.underlying5 Try.underlying9 h
theorem strOfNums_inj : ∀ {a b : List Int}, (∀ x ∈ a, 0 ≤ x ∧ x < 256) → (∀ x ∈ b, 0 ≤ x ∧ x < 256) → (strOfNums a).toList = (strOfNums b).toList → a = b := by
  intro a b ha hb h
  rw [Lib.strOfNums_toList, Lib.strOfNums_toList] at h
  unfold Lib.bytesOf at h
  induction a generalizing b with
  | nil =>
    cases b with
    | nil => rfl
    | cons y b => simp at h
  | cons x a ih =>
    cases b with
    | nil => simp at h
    | cons y b =>
      simp only [List.map_cons, List.cons.injEq] at h
      obtain ⟨h1, h2⟩ := h
      have hx := ha x List.mem_cons_self
      have hy := hb y List.mem_cons_self
      have h3 := congrArg UInt8.toNat h1
      rw [UInt8.toNat_ofNat', UInt8.toNat_ofNat'] at h3
      have h4 : x = y := by omega
      rw [h4, ih (fun z hz => ha z (List.mem_cons_of_mem _ hz)) (fun z hz => hb z (List.mem_cons_of_mem _ hz)) h2]
theorem frameL_bytes (d : Bool) (s a : Nat) (l : List Int) (hs : s ≤ 1073741824) (ha : a ≤ 1073741824) (hl : l.length ≤ 1048576) (hb : ∀ x ∈ l, 0 ≤ x ∧ x < 256) : ∀ x ∈ frameL d s a l, 0 ≤ x ∧ x < 256 := by
  intro x hx
  unfold frameL at hx
  rcases List.mem_append.1 hx with hx | hx
  · exact head_bytes d s a l hs ha hl hb x hx
  · unfold be4 at hx
    simp only [List.mem_cons, List.not_mem_nil, or_false] at hx
    rcases hx with rfl | rfl | rfl | rfl <;> omega
theorem encF_bytes (x : Fr) (hg : goodFr x) {r : List Int} {E : Int} (h : encF x = (r, E)) : ∀ y ∈ r, 0 ≤ y ∧ y < 256 := by
  obtain ⟨d, s, a, l⟩ := x
  unfold encF at h
  cases hr : rightB d s a l.length with
  | false =>
    rw [hr, if_neg (by decide)] at h
    injection h with h1 h2
    subst h1
    exact fun y hy => absurd hy List.not_mem_nil
  | true =>
    rw [hr, if_pos rfl] at h
    injection h with h1 h2
    subst h1
    obtain ⟨S, B, rfl, rfl, hs, ha, hl⟩ := right_facts hr
    exact frameL_bytes d S B l hs ha hl (good_bytes hg)
theorem u8_wf {x : Int} (h : 0 ≤ x ∧ x < 256) : (Lit.int .u8 x).wf = true := by
  simp only [Lit.wf, Bool.and_eq_true, IntKind.min, IntKind.max, IntKind.bits, IntKind.signed]
  simp
  omega
theorem i64_wf {x : Int} (h : -9223372036854775808 ≤ x ∧ x < 9223372036854775808) : (Lit.int .i64 x).wf = true := by
  simp only [Lit.wf, Bool.and_eq_true, IntKind.min, IntKind.max, IntKind.bits, IntKind.signed]
  simp
  omega
theorem good_of {d : Bool} {s a : Int} {l : List Int} (hs : 0 ≤ s ∧ s ≤ 1073741824) (ha : 0 ≤ a ∧ a ≤ 1073741824) (hb : ∀ x ∈ l, 0 ≤ x ∧ x < 256) (hl : l.length ≤ 140737488351232) : goodFr (d, s, a, l) :=
  ⟨trivial, show (Lit.int .i64 s).wf = true from i64_wf (by omega), show (Lit.int .i64 a).wf = true from i64_wf (by omega), by simpa [reachBytes] using hl, fun y hy => u8_wf (hb y hy)⟩
/-- What the document's Decode tells of bytes that are long enough. -/
def refF (n : Nat) (l : List Int) : Fr × Int :=
  if (rNum 1073741824 ((l.take n).drop 1)).2.1 = 0 ∧ (rNum 1073741824 (rNum 1073741824 ((l.take n).drop 1)).2.2).2.1 = 0 ∧ (rByt 1048576 (rNum 1073741824 (rNum 1073741824 ((l.take n).drop 1)).2.2).2.2).2.1 = 0 ∧
      (rByt 1048576 (rNum 1073741824 (rNum 1073741824 ((l.take n).drop 1)).2.2).2.2).2.2.length = 0 ∧
      encF (rd l 0 == 1, (rNum 1073741824 ((l.take n).drop 1)).1, (rNum 1073741824 (rNum 1073741824 ((l.take n).drop 1)).2.2).1, (rByt 1048576 (rNum 1073741824 (rNum 1073741824 ((l.take n).drop 1)).2.2).2.2).1) = (l, 0) then
    ((rd l 0 == 1, (rNum 1073741824 ((l.take n).drop 1)).1, (rNum 1073741824 (rNum 1073741824 ((l.take n).drop 1)).2.2).1, (rByt 1048576 (rNum 1073741824 (rNum 1073741824 ((l.take n).drop 1)).2.2).2.2).1), 0)
  else ((false, 0, 0, []), 14)

set_option maxRecDepth 100000 in
set_option maxHeartbeats 1000000 in
theorem refdecode_on (A : Option Addr) (c n : Nat) (l : List Int) (w : World) (hr : Kd.C (Kd.int .u8) w A l.length l) (hc : l.length ≤ c) (h : 1 ≤ n) (hn : l.length = n + 4) (hl : l.length ≤ 140737488351232) (hb : ∀ x ∈ l, 0 ≤ x ∧ x < 256) (h2 : ¬ 1 < rd l 0) (F : Fr) (E : Int) (hd : refF n l = (F, E)) :
    Calls Try.prog 29 #[.slice A l.length c] w fun e w' => ∃ V, e = .returned (.tuple #[.agg #[.bool F.1, .int .i64 F.2.1, .int .i64 F.2.2.1, V], .int .i64 E]) ∧ (Kd.int .u8).R 5 w' w.heap.size (fun _ => True) V F.2.2.2 ∧ Below w.heap.size w w' := by
  have hw : wrap64 ((l.length : Int) - 4) = (n : Int) := by unfold wrap64; omega
  have h1 : ¬ (l.length : Int) < 5 := by omega
  have hlt : (0 : Int) < (l.length : Int) := by omega
  have hB : Below w.heap.size w (w.alloc (.cells zeroV 53)) := below_alloc (Below.refl _ _) _
  obtain ⟨ad, rfl, hcell⟩ := Kd.at_int (Kd.C_below hr hB) 0 (by omega) (by omega)
  change (w.alloc (.cells zeroV 53)).cell? (ad.add 0) = _ at hcell
  have h0 : ad.add 0 = ad := by simp [Addr.add]
  rw [h0] at hcell
  have hnl : (l.take n).length = n := by simp; omega
  have hbt : ∀ x ∈ l.take n, 0 ≤ x ∧ x < 256 := fun x hx => hb x (List.mem_of_mem_take hx)
  obtain ⟨sq, e1, a1, ha1, hp1, hf1⟩ := ref_number (l.take n) hbt (by omega) 1 (by omega) 1073741824
  obtain ⟨ak, e2, a2, ha2, hp2, hf2⟩ := ref_number (l.take n) hbt (by omega) a1 ha1 1073741824
  have hq1 := rNum_le _ _ (by decide) hp1
  have hq2 := rNum_le _ _ (by decide) hp2
  have hw1 : IntKind.i64.wrap sq = sq := by rw [IntKind.wrap_i64]; omega
  have hw2 : IntKind.i64.wrap ak = ak := by rw [IntKind.wrap_i64]; omega
  have HQ := Aside0.mk (And.intro hq1 hq2)
  have P1 := Aside0.mk hp1
  have P2 := Aside0.mk hp2
  have HF1 := Aside0.mk hf1
  have HF2 := Aside0.mk hf2
  have HA := Aside0.mk (And.intro ha1 ha2)
  have HBT := Aside0.mk hbt
  have HNL := Aside0.mk hnl
  have HR := Aside0.mk hr
  have HB := Aside0.mk hb
  have HL := Aside0.mk (And.intro hl (And.intro hn h))
  have HB0 := Aside0.mk hB
  have hnc : (n : Int) ≤ (l.length : Int) := by omega
  have hc' : (l.length : Int) ≤ (c : Int) := by omega
  have hcn : (n : Int) ≤ (c : Int) := by omega
  clear h hl hn hr hb hB hq1 hq2 hp1 hp2 hf1 hf2 ha1 ha2 hbt hnl
  go_enter Try.func29, Try.ntmps29
  go_wp2_with fail
  change Calls _ _ _ ((w.alloc (.cells zeroV 53)).alloc (.cells #[.slice (some ad) n c, .int .i64 1] 118)) _
  obtain ⟨W1, hW1⟩ : ∃ W, W = w.alloc (.cells zeroV 53) := ⟨_, rfl⟩
  have hz1 : W1.heap.size = w.heap.size + 1 := by rw [hW1]; simp
  have HRES1 := Aside0.mk (show W1.heap[w.heap.size]? = some (.cells zeroV 53 (0, 0)) by rw [hW1]; exact heap_alloc_new w _)
  rw [← hW1] at hcell HB0 ⊢
  rw [← hz1]
  obtain ⟨g, hg⟩ : ∃ g, g = W1.heap.size := ⟨_, rfl⟩
  rw [← hg]
  obtain ⟨W2, hW2⟩ : ∃ W, W = W1.alloc (.cells #[.slice (some ad) n c, .int .i64 1] 118) := ⟨_, rfl⟩
  rw [← hW2]
  have HZ := Aside0.mk (show w.heap.size < W1.heap.size by omega)
  have HI := Aside0.mk (show IsS118 W1 W2 g (l.take n) 1 by
    refine ⟨some ad, c, ?_, ⟨by omega, by rw [HNL.out]; omega⟩, ?_⟩
    · rw [HNL.out, hW2, hg]; exact heap_alloc_new W1 _
    · exact Kd.C_below (Kd.C_take HR.out (by omega)) HB0.out)
  have HB2 := Aside0.mk (show Below W1.heap.size W1 W2 by rw [hW2]; exact below_alloc (Below.refl _ _) _)
  have HC0 := Aside0.mk hcell
  obtain ⟨bd, e3, a3, ha3, hp3, hf3⟩ := ref_bytes (l.take n) HBT.out (by have := HL.out.1; have := HNL.out; omega) a2 HA.out.2 1048576 (by decide) W1 g
  have P3 := Aside0.mk hp3
  have HA3 := Aside0.mk ha3
  have HF3 := Aside0.mk hf3
  clear hW1 hz1 hcell hg hW2 hp3 ha3 hf3 hnc hcn hc'
  refine (windbreakref09_Reader_Number.calls 32 g (l.take n) 1 _ _ _ _ W1 _ HI.out HB2.out HF1.out).mono ?_
  rintro e w3 ⟨rfl, hI3, hB3, _⟩
  have HI3 := Aside0.mk hI3
  have HB3 := Aside0.mk hB3
  clear hI3 hB3
  go_wp2_with fail
  refine (windbreakref09_Reader_Number.calls 32 g (l.take n) (a1 : Int) _ _ _ _ W1 _ HI3.out HB3.out HF2.out).mono ?_
  rintro e w4 ⟨rfl, hI4, hB4, _⟩
  have HI4 := Aside0.mk hI4
  have HB4 := Aside0.mk hB4
  clear hI4 hB4
  go_wp2_with fail
  refine (HF3.out _ HI4.out HB4.out).mono ?_
  rintro e w7 ⟨v7, rfl, ho7, hI7, hB7, _⟩
  obtain ⟨A7, c7, rfl, hc7, hr7⟩ := Kd.R_reads ho7
  obtain ⟨n7, hn7⟩ : ∃ n7, n7 = bd.length := ⟨_, rfl⟩
  rw [← hn7] at hr7 hc7 ho7 ⊢
  have HO7 := Aside0.mk ho7
  have HI7 := Aside0.mk hI7
  have HB7 := Aside0.mk hB7
  have HN7 := Aside0.mk hn7
  clear ho7 hI7 hB7 hr7 hc7 hn7
  have hcell := (HB7.out.cell (p := ad) (blk_of_cell HC0.out)).trans HC0.out
  go_upto_region 8 with fail
  obtain ⟨W8, hW8⟩ : ∃ W, W = w7.alloc (.cells #[.bool (rd l 0 == 1), .int .i64 sq, .int .i64 ak, .slice A7 n7 c7] 53) := ⟨_, rfl⟩
  rw [← hW8]
  have hs0 : W1.heap.size ≤ w7.heap.size := HB7.out.size
  have HBW := Aside0.mk (show Below w.heap.size w w7 from HB0.out.trans (HB7.out.mono (Nat.le_of_lt HZ.out)))
  have HB8 := Aside0.mk (show Below w.heap.size w W8 by rw [hW8]; exact HBW.out.alloc (Nat.le_trans (Nat.le_of_lt HZ.out) hs0) _)
  have HRES := Aside0.mk (show W8.heap[w.heap.size]? = some (.cells zeroV 53 (0, 0)) by
    rw [hW8, heap_alloc_old _ _ (Nat.lt_of_lt_of_le HZ.out hs0), HB7.out.block _ HZ.out]
    exact HRES1.out)
  have HBOX := Aside0.mk (show W8.heap[w7.heap.size]? = some (.cells #[.bool (rd l 0 == 1), .int .i64 sq, .int .i64 ak, .slice A7 n7 c7] 53 (0, 0)) by rw [hW8]; exact heap_alloc_new w7 _)
  have HI8 := Aside0.mk (show IsS118 W1 W8 g (l.take n) (a3 : Int) by rw [hW8]; exact HI7.out.alloc _)
  have HB81 := Aside0.mk (show Below W1.heap.size W1 W8 by rw [hW8]; exact HB7.out.alloc hs0 _)
  have HO8 := Aside0.mk (show (Kd.int .u8).R 5 W8 w.heap.size (fun _ => True) (.slice A7 n7 c7) bd by rw [hW8]; exact Kd.R_alloc (Kd.R_lower HO7.out (Nat.le_trans (Nat.le_of_lt HZ.out) HB4.out.size)) _)
  have HC8 := Aside0.mk (HB81.out.cell (p := ad) (blk_of_cell HC0.out) |>.trans HC0.out)
  clear hW8 hcell hw1 hw2
  have H := Aside0.mk hd
  clear hd
  have HNE := Aside0.mk (show g ≠ w.heap.size ∧ g ≠ w7.heap.size from ⟨by have := HI4.out.ge; have := HZ.out; omega, by have := HI7.out.lt; omega⟩)
  have HLT := Aside0.mk (ref_left (l.take n) (by have := HL.out; have := HNL.out; omega) a3 HA3.out)
  by_cases c1 : e1 = 0
  case neg =>
    have cb : (e1 != 0) = true := bne_iff_ne.2 c1
    obtain ⟨h1, h2⟩ : F = (false, 0, 0, []) ∧ E = 14 := by have h := H.out; unfold refF at h; rw [P1.out] at h; simp only at h; rw [P2.out] at h; simp only at h; rw [P3.out] at h; simp only at h; rw [if_neg (by exact fun hh => c1 hh.1)] at h; exact ⟨(Prod.mk.inj h).1.symm, (Prod.mk.inj h).2.symm⟩
    subst h1 h2
    go_wp2_with (refine wpList_store_row rfl 53 (.tmp 2) (.tmp 71) rfl w.heap.size zeroV rfl rfl 53 zeroV HRES.out size53 rfl (frame_one _ _ _ _ _ _) ?_)
    refine bodyPost_ret (v := .tuple #[.agg zeroV, .int .i64 14]) (ret_cell rfl _ _ w.heap.size 53 zeroV (0, 0) _ rfl rfl (setRow_heap _ _ zeroV zeroV 53 (0, 0) HRES.out) rfl) rfl ?_
    exact ⟨_, rfl, Kd.R_nil _ _ _ _ _, below_setRow HB8.out (Nat.le_refl _) _⟩
  subst c1
  by_cases c2 : e2 = 0
  case neg =>
    have cb : (e2 != 0) = true := bne_iff_ne.2 c2
    obtain ⟨h1, h2⟩ : F = (false, 0, 0, []) ∧ E = 14 := by have h := H.out; unfold refF at h; rw [P1.out] at h; simp only at h; rw [P2.out] at h; simp only at h; rw [P3.out] at h; simp only at h; rw [if_neg (by exact fun hh => c2 hh.2.1)] at h; exact ⟨(Prod.mk.inj h).1.symm, (Prod.mk.inj h).2.symm⟩
    subst h1 h2
    go_wp2_with (refine wpList_store_row rfl 53 (.tmp 2) (.tmp 71) rfl w.heap.size zeroV rfl rfl 53 zeroV HRES.out size53 rfl (frame_one _ _ _ _ _ _) ?_)
    refine bodyPost_ret (v := .tuple #[.agg zeroV, .int .i64 14]) (ret_cell rfl _ _ w.heap.size 53 zeroV (0, 0) _ rfl rfl (setRow_heap _ _ zeroV zeroV 53 (0, 0) HRES.out) rfl) rfl ?_
    exact ⟨_, rfl, Kd.R_nil _ _ _ _ _, below_setRow HB8.out (Nat.le_refl _) _⟩
  subst c2
  by_cases c3 : e3 = 0
  case neg =>
    have cb : (e3 != 0) = true := bne_iff_ne.2 c3
    obtain ⟨h1, h2⟩ : F = (false, 0, 0, []) ∧ E = 14 := by have h := H.out; unfold refF at h; rw [P1.out] at h; simp only at h; rw [P2.out] at h; simp only at h; rw [P3.out] at h; simp only at h; rw [if_neg (by exact fun hh => c3 hh.2.2.1)] at h; exact ⟨(Prod.mk.inj h).1.symm, (Prod.mk.inj h).2.symm⟩
    subst h1 h2
    go_wp2_with (refine wpList_store_row rfl 53 (.tmp 2) (.tmp 71) rfl w.heap.size zeroV rfl rfl 53 zeroV HRES.out size53 rfl (frame_one _ _ _ _ _ _) ?_)
    refine bodyPost_ret (v := .tuple #[.agg zeroV, .int .i64 14]) (ret_cell rfl _ _ w.heap.size 53 zeroV (0, 0) _ rfl rfl (setRow_heap _ _ zeroV zeroV 53 (0, 0) HRES.out) rfl) rfl ?_
    exact ⟨_, rfl, Kd.R_nil _ _ _ _ _, below_setRow HB8.out (Nat.le_refl _) _⟩
  subst c3
  by_cases c4 : ((l.take n).drop a3).length = 0
  case neg =>
    have cb : ((((l.take n).drop a3).length : Nat) : Int) > 0 := by omega
    obtain ⟨h1, h2⟩ : F = (false, 0, 0, []) ∧ E = 14 := by have h := H.out; unfold refF at h; rw [P1.out] at h; simp only at h; rw [P2.out] at h; simp only at h; rw [P3.out] at h; simp only at h; rw [if_neg (by exact fun hh => c4 hh.2.2.2.1)] at h; exact ⟨(Prod.mk.inj h).1.symm, (Prod.mk.inj h).2.symm⟩
    subst h1 h2
    obtain ⟨N3, hN3⟩ : ∃ N, N = ((l.take n).drop a3).length := ⟨_, rfl⟩
    rw [← hN3] at cb HLT
    clear hN3 c4
    go_wp2_with (first | (go_at_call 70; refine (windbreakref09_Reader_Left.calls g (l.take n) (a3 : Int) _ _ W1 _ HI8.out HB81.out HLT.out).mono ?_; rintro e w9 ⟨rfl, hI9, hB9, hK9⟩; have HB9 := Aside0.mk hB9; have HK9 := Aside0.mk hK9; have HRES9 := Aside0.mk ((hK9.2 _ (blk_lt HRES.out) (Ne.symm HNE.out.1) (by simp)).trans HRES.out); have HBOX9 := Aside0.mk ((hK9.2 _ (blk_lt HBOX.out) (Ne.symm HNE.out.2) (by simp)).trans HBOX.out); clear hI9 hB9 hK9) | (refine wpList_store_row rfl 53 (.tmp 2) (.tmp 71) rfl w.heap.size zeroV rfl rfl 53 zeroV HRES9.out size53 rfl (frame_one _ _ _ _ _ _) ?_))
    refine bodyPost_ret (v := .tuple #[.agg zeroV, .int .i64 14]) (ret_cell rfl _ _ w.heap.size 53 zeroV (0, 0) _ rfl rfl (setRow_heap _ _ zeroV zeroV 53 (0, 0) HRES9.out) rfl) rfl ?_
    exact ⟨_, rfl, Kd.R_nil _ _ _ _ _, below_setRow (HB0.out.trans (HB9.out.mono (Nat.le_of_lt HZ.out))) (Nat.le_refl _) _⟩
  rw [c4] at HLT
  have HG := Aside0.mk (show goodFr (rd l 0 == 1, sq, ak, bd) from good_of HQ.out.1 HQ.out.2 (rByt_bytes _ _ (fun x hx => HBT.out x (List.mem_of_mem_drop hx)) P3.out) (by have h1 := rByt_len _ _ P3.out; have := HL.out; have := HNL.out; rw [List.length_drop] at h1; omega))
  obtain ⟨R2, E2, hE2⟩ : ∃ r e, encF (rd l 0 == 1, sq, ak, bd) = (r, e) := ⟨_, _, rfl⟩
  obtain ⟨k2, hk2⟩ := refencode_all _ HG.out R2 E2 hE2
  have HE2 := Aside0.mk hE2
  have HK2 := Aside0.mk hk2
  clear hE2 hk2
  have hz : ¬ (((0 : Nat) : Int) > 0) := by omega
  go_wp2_with (go_at_call 70; refine (windbreakref09_Reader_Left.calls g (l.take n) (a3 : Int) _ _ W1 _ HI8.out HB81.out HLT.out).mono ?_; rintro e w9 ⟨rfl, hI9, hB9, hK9⟩; have HB9 := Aside0.mk hB9; have HK9 := Aside0.mk hK9; have HRES9 := Aside0.mk ((hK9.2 _ (blk_lt HRES.out) (Ne.symm HNE.out.1) (by simp)).trans HRES.out); have HBOX9 := Aside0.mk ((hK9.2 _ (blk_lt HBOX.out) (Ne.symm HNE.out.2) (by simp)).trans HBOX.out); have q0 := (blk_cell HBOX9.out 0).trans rfl; have q1 := (blk_cell HBOX9.out 1).trans rfl; have q2 := (blk_cell HBOX9.out 2).trans rfl; have q3 := (blk_cell HBOX9.out 3).trans rfl; have HO9 := Aside0.mk (Kd.R_mono (row_kept HO8.out HI8.out hK9) (fun _ _ => trivial) : (Kd.int .u8).R 5 w9 w.heap.size (fun _ => True) (.slice A7 n7 c7) bd); clear hI9 hB9 hK9)
  have hen := windbreakref10_Encode.calls k2 (rd l 0 == 1) sq ak A7 c7 bd R2 E2 w9 (Kd.R_reads' HO9.out).2.2 (by rw [← HN7.out]; exact (Kd.R_reads' HO9.out).2.1) HK2.out
  rw [← HN7.out] at hen
  refine hen.mono ?_
  rintro e w10 ⟨v10, rfl, ho10, hb10⟩
  clear hen q0 q1 q2 q3
  have HB10 := Aside0.mk hb10
  have HBW9 := Aside0.mk (show Below w.heap.size w w9 from HB0.out.trans (HB9.out.mono (Nat.le_of_lt HZ.out)))
  have HBWX := Aside0.mk (show Below w.heap.size w w10 from HBW9.out.trans (hb10.mono HBW9.out.size))
  have HRES10 := Aside0.mk ((hb10.block _ (blk_lt HRES9.out)).trans HRES9.out)
  have HBOX10 := Aside0.mk ((hb10.block _ (blk_lt HBOX9.out)).trans HBOX9.out)
  have HO10 := Aside0.mk (Kd.R_below HO9.out hb10)
  have r1 := as_string ho10 w10 (Below.refl _ _)
  have r2 : (convert 30 9 (.slice (some ad) l.length c)).run Try.prog w10 = .ok (.string (strOfNums l)) w10 := C_str (Kd.C_below HR.out HBWX.out)
  have HRB := Aside0.mk (show ∀ x ∈ R2, 0 ≤ x ∧ x < 256 from encF_bytes _ HG.out HE2.out)
  clear ho10 hb10
  by_cases c5 : E2 = 0
  case neg =>
    have cb : (E2 != 0) = true := bne_iff_ne.2 c5
    obtain ⟨h1, h2⟩ : F = (false, 0, 0, []) ∧ E = 14 := by have h := H.out; unfold refF at h; rw [P1.out] at h; simp only at h; rw [P2.out] at h; simp only at h; rw [P3.out] at h; simp only at h; rw [if_neg (by exact fun hh => c5 (by have h6 := hh.2.2.2.2; rw [HE2.out] at h6; exact (Prod.mk.inj h6).2))] at h; exact ⟨(Prod.mk.inj h).1.symm, (Prod.mk.inj h).2.symm⟩
    subst h1 h2
    go_wp2_with (refine wpList_store_row rfl 53 (.tmp 2) (.tmp 86) rfl w.heap.size zeroV rfl rfl 53 zeroV HRES10.out size53 rfl (frame_one _ _ _ _ _ _) ?_)
    refine bodyPost_ret (v := .tuple #[.agg zeroV, .int .i64 14]) (ret_cell rfl _ _ w.heap.size 53 zeroV (0, 0) _ rfl rfl (setRow_heap _ _ zeroV zeroV 53 (0, 0) HRES10.out) rfl) rfl ?_
    exact ⟨_, rfl, Kd.R_nil _ _ _ _ _, below_setRow HBWX.out (Nat.le_refl _) _⟩
  subst c5
  by_cases c6 : R2 = l
  case neg =>
    have cb : ((strOfNums R2).toList == (strOfNums l).toList) = false := beq_eq_false_iff_ne.2 (fun hh => c6 (strOfNums_inj HRB.out HB.out hh))
    obtain ⟨h1, h2⟩ : F = (false, 0, 0, []) ∧ E = 14 := by have h := H.out; unfold refF at h; rw [P1.out] at h; simp only at h; rw [P2.out] at h; simp only at h; rw [P3.out] at h; simp only at h; rw [if_neg (by exact fun hh => c6 (by have h6 := hh.2.2.2.2; rw [HE2.out] at h6; exact (Prod.mk.inj h6).1))] at h; exact ⟨(Prod.mk.inj h).1.symm, (Prod.mk.inj h).2.symm⟩
    subst h1 h2
    go_wp2_with (refine wpList_store_row rfl 53 (.tmp 2) (.tmp 86) rfl w.heap.size zeroV rfl rfl 53 zeroV HRES10.out size53 rfl (frame_one _ _ _ _ _ _) ?_)
    refine bodyPost_ret (v := .tuple #[.agg zeroV, .int .i64 14]) (ret_cell rfl _ _ w.heap.size 53 zeroV (0, 0) _ rfl rfl (setRow_heap _ _ zeroV zeroV 53 (0, 0) HRES10.out) rfl) rfl ?_
    exact ⟨_, rfl, Kd.R_nil _ _ _ _ _, below_setRow HBWX.out (Nat.le_refl _) _⟩
  obtain ⟨h1, h2⟩ : F = (rd l 0 == 1, sq, ak, bd) ∧ E = 0 := by have h := H.out; unfold refF at h; rw [P1.out] at h; simp only at h; rw [P2.out] at h; simp only at h; rw [P3.out] at h; simp only at h; rw [if_pos (by exact ⟨trivial, trivial, trivial, c4, by rw [HE2.out, c6]⟩)] at h; exact ⟨(Prod.mk.inj h).1.symm, (Prod.mk.inj h).2.symm⟩
  subst h1 h2
  have cq : ((strOfNums R2).toList == (strOfNums l).toList) = true := by rw [c6]; simp
  clear c6
  go_wp2_with (first | (refine wpList_load_row rfl 53 (.tmp 11) rfl w7.heap.size rfl 53 _ (0, 0) _ HBOX10.out Try.underlying53 rfl size53 ?_) | (refine wpList_store_row rfl 53 (.tmp 2) (.tmp 87) rfl w.heap.size #[.bool (rd l 0 == 1), .int .i64 sq, .int .i64 ak, .slice A7 n7 c7] rfl rfl 53 zeroV HRES10.out size53 rfl (frame_one _ _ _ _ _ _) ?_))
  refine bodyPost_ret (v := .tuple #[.agg #[.bool (rd l 0 == 1), .int .i64 sq, .int .i64 ak, .slice A7 n7 c7], .int .i64 0]) (ret_cell rfl _ _ w.heap.size 53 _ (0, 0) _ rfl rfl (setRow_heap _ _ zeroV _ 53 (0, 0) HRES10.out) rfl) rfl ?_
  exact ⟨_, rfl, R_setRow HO10.out HRES10.out (by decide) _, below_setRow HBWX.out (Nat.le_refl _) _⟩
end Go.Proofs.Ytekakngojhnleaa.De
/- FrameDecodes: the plain law: what the program's Decode tells is what the document's does. -/
namespace Go.Proofs.Ytekakngojhnleaa.De
set_option linter.unusedSimpArgs false
set_option linter.unusedVariables false
open Go.RowKit Go.Proofs.Ytekakngojhnleaa.Fns Go.Proofs.Ytekakngojhnleaa.Rf Go.Proofs.Ytekakngojhnleaa.Rd Go.Proofs.Ytekakngojhnleaa.Rt Go.Proofs.Ytekakngojhnleaa.Fs Go.Proofs.Ytekakngojhnleaa.Fp Go.Proofs.Ytekakngojhnleaa.En Go.Proofs.Ytekakngojhnleaa.Of Go.Proofs.Ytekakngojhnleaa.Ew Go.Proofs.YtekakngojhnleaaW.PrintWords Go.Proofs.YtekakngojhnleaaW.PrintLast Go.Proofs.YtekakngojhnleaaW.PrintMore

theorem nx_again (xs : List Int) (hb : ∀ c ∈ xs, 0 ≤ c ∧ c < 256) {v : Int} {m : Nat} (h : nx 0 0 xs = (v, m)) (hm : m ≠ 0) : ∃ s : Nat, v = (s : Int) ∧ enc 9 s = xs.take m := by
  have e : nx 0 ((0 : Nat) : Int) xs = sp 0 ((0 : Nat) : Int) xs := nx_sp xs hb 0 0 (by omega) (by simp)
  have h' : sp 0 ((0 : Nat) : Int) xs = (v, m) := by rw [← e]; exact h
  obtain ⟨x, hv, _, _, henc⟩ := sp_again xs hb 0 0 v m (by omega) h' hm
  refine ⟨x, by rw [hv]; simp, ?_⟩
  have := henc 9 (by omega)
  simpa using this
theorem rNum_again (most : Int) (xs : List Int) (hb : ∀ c ∈ xs, 0 ≤ c ∧ c < 256) {x : Int} {ys : List Int} (h : rNum most xs = (x, 0, ys)) : ∃ s : Nat, x = (s : Int) ∧ xs = enc 9 s ++ ys := by
  obtain ⟨v, m, hx⟩ : ∃ n m, nx 0 0 xs = (n, m) := ⟨_, _, rfl⟩
  unfold rNum at h
  rw [hx] at h
  simp only at h
  split at h
  · injection h with h1 h2
    injection h2 with h2 h3
    exact absurd h2 (by decide)
  · rename_i hc
    injection h with h1 h2
    injection h2 with h2 h3
    subst h1 h3
    obtain ⟨s, hs, he⟩ := nx_again xs hb hx (by omega)
    exact ⟨s, hs, by rw [he, List.take_append_drop]⟩
theorem rByt_again (most : Int) (xs : List Int) (hb : ∀ c ∈ xs, 0 ≤ c ∧ c < 256) {x : List Int} {ys : List Int} (h : rByt most xs = (x, 0, ys)) : xs = enc 9 x.length ++ (x ++ ys) := by
  obtain ⟨v, m, hx⟩ : ∃ n m, nx 0 0 xs = (n, m) := ⟨_, _, rfl⟩
  unfold rByt at h
  rw [hx] at h
  simp only at h
  split at h
  · injection h with h1 h2
    injection h2 with h2 h3
    exact absurd h2 (by decide)
  · rename_i hc
    injection h with h1 h2
    injection h2 with h2 h3
    obtain ⟨s, hs, he⟩ := nx_again xs hb hx (by omega)
    subst hs
    rw [Int.toNat_natCast] at h1 h3
    have hl : x.length = s := by rw [← h1]; simp; omega
    rw [hl, he, ← h1, ← h3, ← List.drop_drop, List.take_append_drop, List.take_append_drop]
theorem be4_of (q : List Int) (hq : q.length = 4) (hb : ∀ x ∈ q, 0 ≤ x ∧ x < 256) (S : Nat) (hS : S < 4294967296) : beN q 0 = S ↔ be4 S = q := by
  match q, hq, hb with
  | [a, b, c, d], _, hb =>
    have ha := hb a (by simp)
    have hb' := hb b (by simp)
    have hc := hb c (by simp)
    have hd := hb d (by simp)
    have e : beN [a, b, c, d] 0 = (((0 * 256 % 4294967296 + a.toNat) * 256 % 4294967296 + b.toNat) * 256 % 4294967296 + c.toNat) * 256 % 4294967296 + d.toNat := rfl
    rw [e]
    unfold be4
    simp only [List.cons.injEq, and_true]
    obtain ⟨A, rfl⟩ := Int.eq_ofNat_of_zero_le ha.1
    obtain ⟨B, rfl⟩ := Int.eq_ofNat_of_zero_le hb'.1
    obtain ⟨C, rfl⟩ := Int.eq_ofNat_of_zero_le hc.1
    obtain ⟨D, rfl⟩ := Int.eq_ofNat_of_zero_le hd.1
    simp only [Int.toNat_natCast, Int.natCast_inj]
    have e2 : (((0 * 256 % 4294967296 + A) * 256 % 4294967296 + B) * 256 % 4294967296 + C) * 256 % 4294967296 + D = 16777216 * A + 65536 * B + 256 * C + D := by omega
    rw [e2]
    constructor
    · intro h
      subst h
      refine ⟨by omega, by omega, by omega, by omega⟩
    · rintro ⟨h1, h2, h3, h4⟩
      omega

theorem dec_ref (n : Nat) (l : List Int) (hn : l.length = n + 4) (h : 1 ≤ n) (hb : ∀ x ∈ l, 0 ≤ x ∧ x < 256) (h2 : ¬ 1 < rd l 0) : decF n l = refF n l := by
  obtain ⟨sq, e1, X1, hp1⟩ : ∃ x e ys, rNum 1073741824 ((l.take n).drop 1) = (x, e, ys) := ⟨_, _, _, rfl⟩
  obtain ⟨ak, e2, X2, hp2⟩ : ∃ x e ys, rNum 1073741824 X1 = (x, e, ys) := ⟨_, _, _, rfl⟩
  obtain ⟨bd, e3, X3, hp3⟩ : ∃ x e ys, rByt 1048576 X2 = (x, e, ys) := ⟨_, _, _, rfl⟩
  unfold decF refF
  simp only [hp1, hp2, hp3]
  by_cases c1 : e1 = 0
  · subst c1
    by_cases c2 : e2 = 0
    · subst c2
      by_cases c3 : e3 = 0
      · subst c3
        by_cases c4 : X3.length = 0
        · have hbt : ∀ x ∈ l.take n, 0 ≤ x ∧ x < 256 := fun x hx => hb x (List.mem_of_mem_take hx)
          have hbt1 : ∀ x ∈ (l.take n).drop 1, 0 ≤ x ∧ x < 256 := fun x hx => hbt x (List.mem_of_mem_drop hx)
          obtain ⟨S, rfl, hs⟩ := rNum_again _ _ hbt1 hp1
          have hb1 : ∀ x ∈ X1, 0 ≤ x ∧ x < 256 := fun x hx => hbt1 x (by rw [hs]; exact List.mem_append_right _ hx)
          obtain ⟨B, rfl, ha⟩ := rNum_again _ _ hb1 hp2
          have hb2 : ∀ x ∈ X2, 0 ≤ x ∧ x < 256 := fun x hx => hb1 x (by rw [ha]; exact List.mem_append_right _ hx)
          have hy := rByt_again _ _ hb2 hp3
          have hx3 : X3 = [] := List.eq_nil_of_length_eq_zero c4
          rw [hx3, List.append_nil] at hy
          have hl0 : 0 < l.length := by omega
          have hr0 := hb _ (Fs.rd_mem l 0 hl0)
          have hhead : headL (rd l 0 == 1) S B bd = l.take n := by
            have e1 : l.take n = rd l 0 :: (l.take n).drop 1 := by
              have h3 : 0 < (l.take n).length := by simp; omega
              have h4 := Fs.rd_drop (l.take n) 0 h3
              rw [List.drop_zero] at h4
              have h5 : rd (l.take n) ((0 : Nat) : Int) = rd l 0 := by
                show (l.take n).getD 0 0 = l.getD 0 0
                rw [List.getD_eq_getElem?_getD, List.getD_eq_getElem?_getD, List.getElem?_take, if_pos (by omega)]
              rw [h5] at h4
              exact h4
            rw [e1, hs, ha, hy]
            unfold headL
            have e2 : (if (rd l 0 == 1) = true then (1 : Int) else 0) = rd l 0 := by
              by_cases h6 : rd l 0 = 1
              · rw [h6]; rfl
              · rw [if_neg (by simpa using h6)]
                have h0 : 0 ≤ rd l 0 := hr0.1
                omega
            rw [e2]
            simp only [List.append_assoc, List.cons_append, List.nil_append]
          have hsum := sumN_lt (l.take n) hbt
          have hq := be4_of (l.drop n) (by simp; omega) (fun x hx => hb x (List.mem_of_mem_drop hx)) (sumN (l.take n)) hsum
          have hcond : (beN (l.drop n) 0 = sumN (l.take n) ∧ rightB (rd l 0 == 1) (S : Int) (B : Int) bd.length = true) ↔ encF (rd l 0 == 1, (S : Int), (B : Int), bd) = (l, 0) := by
            unfold encF
            simp only [Int.toNat_natCast]
            cases hrb : rightB (rd l 0 == 1) (S : Int) (B : Int) bd.length with
            | false =>
              rw [if_neg (by decide)]
              constructor
              · rintro ⟨_, h7⟩
                exact Bool.noConfusion h7
              · intro h7
                exact absurd (Prod.mk.inj h7).2 (by decide)
            | true =>
              rw [if_pos rfl]
              unfold frameL
              rw [hhead, hq]
              constructor
              · rintro ⟨h7, _⟩
                rw [h7, List.take_append_drop]
              · intro h7
                have h8 := (Prod.mk.inj h7).1
                refine ⟨?_, rfl⟩
                have h9 : l.take n ++ be4 (sumN (l.take n)) = l.take n ++ l.drop n := by rw [h8, List.take_append_drop]
                exact List.append_cancel_left h9
          by_cases hc : beN (l.drop n) 0 = sumN (l.take n) ∧ rightB (rd l 0 == 1) (S : Int) (B : Int) bd.length = true
          · rw [if_pos ⟨rfl, rfl, rfl, c4, hc⟩, if_pos ⟨rfl, rfl, rfl, c4, hcond.1 hc⟩]
          · rw [if_neg (fun hh => hc hh.2.2.2.2), if_neg (fun hh => hc (hcond.2 hh.2.2.2.2))]
        · rw [if_neg (fun hh => c4 hh.2.2.2.1), if_neg (fun hh => c4 hh.2.2.2.1)]
      · rw [if_neg (fun hh => c3 hh.2.2.1), if_neg (fun hh => c3 hh.2.2.1)]
    · rw [if_neg (fun hh => c2 hh.2.1), if_neg (fun hh => c2 hh.2.1)]
  · rw [if_neg (fun hh => c1 hh.1), if_neg (fun hh => c1 hh.1)]
end Go.Proofs.Ytekakngojhnleaa.De
/- FrameDecodes: the law's walk. -/
namespace Go.Proofs.Ytekakngojhnleaa.Dw
set_option linter.unusedSimpArgs false
set_option linter.unusedVariables false
open Go.RowKit Go.Proofs.Ytekakngojhnleaa.Fns Go.Proofs.Ytekakngojhnleaa.Rd Go.Proofs.Ytekakngojhnleaa.Rt Go.Proofs.Ytekakngojhnleaa.En Go.Proofs.Ytekakngojhnleaa.Of Go.Proofs.Ytekakngojhnleaa.Ew Go.Proofs.Ytekakngojhnleaa.De Go.Proofs.YtekakngojhnleaaW.PrintWords Go.Proofs.YtekakngojhnleaaW.PrintLast Go.Proofs.YtekakngojhnleaaW.PrintMore

/-- What Decode tells of any bytes. -/
def decA (l : List Int) : Fr × Int := if l.length < 5 ∨ 1 < rd l 0 then ((false, 0, 0, []), 14) else decF (l.length - 4) l
theorem decode_calls (A : Option Addr) (c : Nat) (l : List Int) (w : World) (hr : Kd.C (Kd.int .u8) w A l.length l) (hc : l.length ≤ c) (hl : l.length ≤ 140737488351232) (hb : ∀ x ∈ l, 0 ≤ x ∧ x < 256) (F : Fr) (E : Int) (hd : decA l = (F, E)) :
    Calls Try.prog 28 #[.slice A l.length c] w fun e w' => ∃ V, e = .returned (.tuple #[.agg #[.bool F.1, .int .i64 F.2.1, .int .i64 F.2.2.1, V], .int .i64 E]) ∧ (Kd.int .u8).R 5 w' w.heap.size (fun _ => True) V F.2.2.2 ∧ Below w.heap.size w w' := by
  unfold decA at hd
  by_cases h : l.length < 5
  · rw [if_pos (.inl h)] at hd
    injection hd with h1 h2
    subst h1 h2
    refine (decode_short A c l w h (by omega)).mono ?_
    rintro e w' ⟨rfl, hb⟩
    exact ⟨_, rfl, Kd.R_nil _ _ _ _ _, hb⟩
  · by_cases h2 : 1 < rd l 0
    · rw [if_pos (.inr h2)] at hd
      injection hd with h3 h4
      subst h3 h4
      refine (decode_two A c l w hr (by omega) (by omega) h2).mono ?_
      rintro e w' ⟨rfl, hb⟩
      exact ⟨_, rfl, Kd.R_nil _ _ _ _ _, hb⟩
    · rw [if_neg (by rintro (h3 | h3); exact h h3; exact h2 h3)] at hd
      exact decode_on A c (l.length - 4) l w hr hc (by omega) (by omega) hl hb h2 F E hd
theorem refdecode_calls (A : Option Addr) (c : Nat) (l : List Int) (w : World) (hr : Kd.C (Kd.int .u8) w A l.length l) (hc : l.length ≤ c) (hl : l.length ≤ 140737488351232) (hb : ∀ x ∈ l, 0 ≤ x ∧ x < 256) (F : Fr) (E : Int) (hd : decA l = (F, E)) :
    Calls Try.prog 29 #[.slice A l.length c] w fun e w' => ∃ V, e = .returned (.tuple #[.agg #[.bool F.1, .int .i64 F.2.1, .int .i64 F.2.2.1, V], .int .i64 E]) ∧ (Kd.int .u8).R 5 w' w.heap.size (fun _ => True) V F.2.2.2 ∧ Below w.heap.size w w' := by
  unfold decA at hd
  by_cases h : l.length < 5
  · rw [if_pos (.inl h)] at hd
    injection hd with h1 h2
    subst h1 h2
    refine (refdecode_short A c l w h).mono ?_
    rintro e w' ⟨rfl, hb⟩
    exact ⟨_, rfl, Kd.R_nil _ _ _ _ _, hb⟩
  · by_cases h2 : 1 < rd l 0
    · rw [if_pos (.inr h2)] at hd
      injection hd with h3 h4
      subst h3 h4
      refine (refdecode_two A c l w hr (by omega) h2).mono ?_
      rintro e w' ⟨rfl, hb⟩
      exact ⟨_, rfl, Kd.R_nil _ _ _ _ _, hb⟩
    · rw [if_neg (by rintro (h3 | h3); exact h h3; exact h2 h3)] at hd
      rw [dec_ref (l.length - 4) l (by omega) (by omega) hb h2] at hd
      exact refdecode_on A c (l.length - 4) l w hr hc (by omega) (by omega) hl hb h2 F E hd

set_option maxRecDepth 100000 in
set_option maxHeartbeats 1000000 in
theorem frameDecodes_walk (A0 : Option Addr) (c0 : Nat) (l0 : List Int) (w : World) (hr0 : Kd.C (Kd.int .u8) w A0 l0.length l0) (hc0 : l0.length ≤ c0) (hl : l0.length * 1 ≤ 140737488351232) (hw : ∀ x ∈ l0, (Lit.int .u8 x).wf = true) :
    Calls Try.prog 8 #[.slice A0 l0.length c0] w fun e w' => e = .returned (.bool true) ∧ Below w.heap.size w w' := by
  obtain ⟨F, E, hd⟩ : ∃ F E, decA l0 = (F, E) := ⟨_, _, rfl⟩
  have HD := Aside0.mk hd
  have HR := Aside0.mk hr0
  have HB := Aside0.mk (u8_bytes hw)
  have HL := Aside0.mk (show l0.length ≤ 140737488351232 by omega)
  clear hd hr0 hw hl
  by_cases hbig : (l0.length : Int) > 3000000
  · go_enter Try.func8, Try.ntmps8
    go_wp2
    go_ret
    exact ⟨rfl, Below.refl _ _⟩
  · go_enter Try.func8, Try.ntmps8
    go_wp2_with fail
    refine (decode_calls A0 c0 l0 _ HR.out hc0 HL.out HB.out F E HD.out).mono ?_
    rintro e w1 ⟨V1, rfl, ho1, hb1⟩
    obtain ⟨A1, c1, rfl, hc1, hr1⟩ := Kd.R_reads ho1
    obtain ⟨d, s, a, bd⟩ := F
    have HO1 := Aside0.mk ho1
    have HB1 := Aside0.mk hb1
    clear ho1 hb1 hr1
    go_wp2_with fail
    have hB2 := HB1.out.alloc HB1.out.size (.cells #[.bool d, .int .i64 s, .int .i64 a, .slice A1 bd.length c1] 53)
    refine (refdecode_calls A0 c0 l0 _ (Kd.C_below HR.out hB2) hc0 HL.out HB.out _ E HD.out).mono ?_
    rintro e w3 ⟨V3, rfl, ho3, hb3⟩
    obtain ⟨A3, c3, rfl, hc3, hr3⟩ := Kd.R_reads ho3
    change bd.length ≤ c3 at hc3
    have q0 : ∀ o, (w3.alloc o).cell? ⟨w1.heap.size, 0, none⟩ = some (.bool d) := fun o => box_cell (below_alloc hb3 o) 0 _ rfl
    have q1 : ∀ o, (w3.alloc o).cell? ⟨w1.heap.size, 1, none⟩ = some (.int .i64 s) := fun o => box_cell (below_alloc hb3 o) 1 _ rfl
    have q2 : ∀ o, (w3.alloc o).cell? ⟨w1.heap.size, 2, none⟩ = some (.int .i64 a) := fun o => box_cell (below_alloc hb3 o) 2 _ rfl
    have q3 : ∀ o, (w3.alloc o).cell? ⟨w1.heap.size, 3, none⟩ = some (.slice A1 bd.length c1) := fun o => box_cell (below_alloc hb3 o) 3 _ rfl
    have HO1b := Aside0.mk (Kd.R_below (Kd.R_alloc HO1.out (.cells #[.bool d, .int .i64 s, .int .i64 a, .slice A1 bd.length c1] 53)) hb3)
    have HO3 := Aside0.mk ho3
    have HB3 := Aside0.mk (hB2.trans (hb3.mono hB2.size))
    clear ho3 hb3 hr3 hB2
    go_wp2_with fail
    obtain ⟨W4, hW4⟩ : ∃ W, W = w3.alloc (.cells #[.bool d, .int .i64 s, .int .i64 a, .slice A3 bd.length c3] 53) := ⟨_, rfl⟩
    have hr1 : (Kd.int .u8).C W4 A1 bd.length bd := by rw [hW4]; exact Kd.C_alloc (Kd.R_reads' HO1b.out).2.2 _
    have hr3 : (Kd.int .u8).C W4 A3 bd.length bd := by rw [hW4]; exact Kd.C_alloc (Kd.R_reads' HO3.out).2.2 _
    have HB4 := Aside0.mk (show Below w.heap.size w W4 by rw [hW4]; exact HB3.out.alloc HB3.out.size _)
    rw [← hW4]
    have hsame : windbreakref10_Same.f d s a bd d s a bd = some true := by unfold windbreakref10_Same.f; simp
    refine (windbreakref10_Same.calls d s a A1 c1 bd d s a A3 c3 bd true _ hr1 hc1 hr3 hc3 hsame).mono ?_
    rintro e w5 ⟨rfl, hb5⟩
    have HB5 := Aside0.mk (HB4.out.trans (hb5.mono HB4.out.size))
    clear hr1 hr3 hsame hb5 q0 q1 q2 q3 hW4
    go_wp2_with fail
    refine (decode_calls none 0 [] _ (Kd.C_nil _ _) (Nat.le_refl _) (by decide) (fun x hx => absurd hx List.not_mem_nil) (false, 0, 0, []) 14 rfl).mono ?_
    rintro e w6 ⟨V6, rfl, ho6, hb6⟩
    obtain ⟨A6, c6, rfl, _, _⟩ := Kd.R_reads ho6
    have HB6 := Aside0.mk (HB5.out.trans (hb6.mono HB5.out.size))
    clear ho6 hb6
    go_wp2_with fail
    go_ret
    exact ⟨rfl, HB6.out.alloc HB6.out.size _⟩
end Go.Proofs.Ytekakngojhnleaa.Dw
/- FrameBack: what was encoded is decoded as it was. -/
namespace Go.Proofs.Ytekakngojhnleaa.Bk
set_option linter.unusedSimpArgs false
set_option linter.unusedVariables false
open Go.RowKit Go.Proofs.Ytekakngojhnleaa.Fns Go.Proofs.Ytekakngojhnleaa.Rd Go.Proofs.Ytekakngojhnleaa.Rt Go.Proofs.Ytekakngojhnleaa.En Go.Proofs.Ytekakngojhnleaa.Of Go.Proofs.Ytekakngojhnleaa.Ew Go.Proofs.Ytekakngojhnleaa.De Go.Proofs.Ytekakngojhnleaa.Dw Go.Proofs.YtekakngojhnleaaW.PrintWords Go.Proofs.YtekakngojhnleaaW.PrintLast Go.Proofs.YtekakngojhnleaaW.PrintMore

theorem enc_bytes9 (x : Nat) (h : x < 18446744073709551616) : ∀ c ∈ enc 9 x, 0 ≤ c ∧ c < 256 := by
  have hp : (128 : Nat) ^ (9 + 1) = 1180591620717411303424 := by decide
  exact enc_bytes 9 x (by omega)
theorem rNum_enc (x : Nat) (hx : x ≤ 1073741824) (rest : List Int) (hr : ∀ c ∈ rest, 0 ≤ c ∧ c < 256) : rNum 1073741824 (enc 9 x ++ rest) = ((x : Int), 0, rest) := by
  have h := nx_enc x (by omega) rest hr
  have hp := enc_pos 9 x
  unfold rNum
  rw [h, if_neg (show ¬ ((enc 9 x).length = 0 ∨ (1073741824 : Int) < (x : Int)) by omega)]
  simp
theorem rByt_enc (l : List Int) (hl : l.length ≤ 1048576) (hb : ∀ c ∈ l, 0 ≤ c ∧ c < 256) : rByt 1048576 (enc 9 l.length ++ l) = (l, 0, []) := by
  have h := nx_enc l.length (by omega) l hb
  have hp := enc_pos 9 l.length
  unfold rByt
  rw [h, if_neg (by simp only [List.length_append]; omega)]
  simp
theorem dec_back (d : Bool) (s a : Nat) (l : List Int) (hr : rightB d (s : Int) (a : Int) l.length = true) (hs : s ≤ 1073741824) (ha : a ≤ 1073741824) (hl : l.length ≤ 1048576) (hb : ∀ x ∈ l, 0 ≤ x ∧ x < 256) : decA (frameL d s a l) = ((d, (s : Int), (a : Int), l), 0) := by
  have h1 := enc_pos 9 s
  have h2 := enc_pos 9 a
  have h3 := enc_pos 9 l.length
  have hb4 : (be4 (sumN (headL d s a l))).length = 4 := rfl
  have hhl : 4 ≤ (headL d s a l).length := by unfold headL; simp only [List.length_append, List.length_cons, List.length_nil]; omega
  have hlen : (frameL d s a l).length = (headL d s a l).length + 4 := by unfold frameL; rw [List.length_append, hb4]
  have hrd : rd (frameL d s a l) 0 = if d then 1 else 0 := rfl
  have htake : (frameL d s a l).take (headL d s a l).length = headL d s a l := by unfold frameL; exact List.take_left' rfl
  have hdrop : (frameL d s a l).drop (headL d s a l).length = be4 (sumN (headL d s a l)) := by unfold frameL; exact List.drop_left' rfl
  have hd1 : (headL d s a l).drop 1 = enc 9 s ++ (enc 9 a ++ (enc 9 l.length ++ l)) := by unfold headL; simp only [List.append_assoc, List.cons_append, List.nil_append, List.drop_succ_cons, List.drop_zero]
  have hbl : ∀ c ∈ enc 9 l.length ++ l, 0 ≤ c ∧ c < 256 := by
    intro c hc
    rcases List.mem_append.1 hc with hc | hc
    · exact enc_bytes9 _ (by omega) c hc
    · exact hb c hc
  have hbal : ∀ c ∈ enc 9 a ++ (enc 9 l.length ++ l), 0 ≤ c ∧ c < 256 := by
    intro c hc
    rcases List.mem_append.1 hc with hc | hc
    · exact enc_bytes9 _ (by omega) c hc
    · exact hbl c hc
  have hp1 := rNum_enc s hs _ hbal
  have hp2 := rNum_enc a ha _ hbl
  have hp3 := rByt_enc l hl hb
  have hsum := sumN_lt (headL d s a l) (head_bytes d s a l hs ha hl hb)
  have hbe : beN (be4 (sumN (headL d s a l))) 0 = sumN (headL d s a l) := (be4_of _ hb4 (fun x hx => frameL_bytes d s a l hs ha hl hb x (by unfold frameL; exact List.mem_append_right _ hx)) _ hsum).2 rfl
  have hd : ((if d then (1 : Int) else 0) == 1) = d := by cases d <;> rfl
  unfold decA
  rw [hrd, if_neg (by rintro (h4 | h4); omega; revert h4; cases d <;> decide), show (frameL d s a l).length - 4 = (headL d s a l).length by omega]
  unfold decF
  rw [htake, hd1, hdrop, hp1, hp2, hp3, hrd, hd, hbe, if_pos ⟨rfl, rfl, rfl, rfl, rfl, hr⟩]

set_option maxRecDepth 100000 in
set_option maxHeartbeats 1000000 in
theorem back_no (d : Bool) (s a : Int) (l : List Int) (A : Option Addr) (c : Nat) (w : World) (h : IsFr w A c (d, s, a, l)) (hr : rightB d s a l.length = false) :
    Calls Try.prog 9 #[.agg #[.bool d, .int .i64 s, .int .i64 a, .slice A l.length c]] w fun e w' => e = .returned (.bool true) ∧ Below w.heap.size w w' := by
  have H := Aside0.mk h
  have HR := Aside0.mk hr
  clear h hr
  go_enter Try.func9, Try.ntmps9
  go_wp2_with fail
  have hB0 : Below w.heap.size w (w.alloc (.cells #[.bool d, .int .i64 s, .int .i64 a, .slice A l.length c] 53)) := below_alloc (Below.refl _ _) _
  refine (encode_no d s a A l.length c _ HR.out).mono ?_
  rintro e w2 ⟨rfl, hb2⟩
  have q0 := box_cell hb2 0 _ rfl
  have q1 := box_cell hb2 1 _ rfl
  have q2 := box_cell hb2 2 _ rfl
  have q3 := box_cell hb2 3 _ rfl
  have HB2 := Aside0.mk (hB0.trans (hb2.mono hB0.size))
  clear hb2 hB0
  go_wp2_with fail
  refine (windbreakref10_Right.calls d s a A c l false _ (Kd.C_below H.out.reads HB2.out) H.out.cap (by rw [rightB_ref, HR.out])).mono ?_
  rintro e w3 ⟨rfl, hb3⟩
  have HB3 := Aside0.mk (HB2.out.trans (hb3.mono HB2.out.size))
  clear hb3
  go_wp2_with fail
  go_ret
  exact ⟨rfl, HB3.out⟩
set_option maxRecDepth 100000 in
set_option maxHeartbeats 1000000 in
theorem back_yes (d : Bool) (s a : Nat) (l : List Int) (A : Option Addr) (c : Nat) (w : World) (h : IsFr w A c (d, (s : Int), (a : Int), l)) (hr : rightB d (s : Int) (a : Int) l.length = true) (hs : s ≤ 1073741824) (ha : a ≤ 1073741824) (hl : l.length ≤ 1048576) :
    Calls Try.prog 9 #[.agg #[.bool d, .int .i64 (s : Int), .int .i64 (a : Int), .slice A l.length c]] w fun e w' => e = .returned (.bool true) ∧ Below w.heap.size w w' := by
  have hb := good_bytes h.good
  change ∀ y ∈ l, 0 ≤ y ∧ y < 256 at hb
  have H := Aside0.mk h
  have HR := Aside0.mk hr
  have HD := Aside0.mk (dec_back d s a l hr hs ha hl hb)
  have HFB := Aside0.mk (frameL_bytes d s a l hs ha hl hb)
  have HFL := Aside0.mk (show (frameL d s a l).length ≤ 140737488351232 ∧ 0 < (frameL d s a l).length by
    have h1 := enc_le 9 s
    have h2 := enc_le 9 a
    have h3 := enc_le 9 l.length
    have hb4 : (be4 (sumN (headL d s a l))).length = 4 := rfl
    unfold frameL
    rw [List.length_append, hb4]
    unfold headL
    simp only [List.length_append, List.length_cons, List.length_nil]
    omega)
  have HS := Aside0.mk (And.intro hs (And.intro ha (And.intro hl hb)))
  clear h hr hs ha hl hb
  go_enter Try.func9, Try.ntmps9
  go_wp2_with fail
  have hB0 : Below w.heap.size w (w.alloc (.cells #[.bool d, .int .i64 (s : Int), .int .i64 (a : Int), .slice A l.length c] 53)) := below_alloc (Below.refl _ _) _
  refine (encode_yes d s a A c l _ (Kd.C_below H.out.reads hB0) H.out.cap HR.out HS.out.1 HS.out.2.1 HS.out.2.2.1 HS.out.2.2.2).mono ?_
  rintro e w2 ⟨V2, rfl, ho2, hb2⟩
  obtain ⟨A2, c2, rfl, hc2, hr2⟩ := Kd.R_reads ho2
  obtain ⟨FL, hFL⟩ : ∃ x, x = frameL d s a l := ⟨_, rfl⟩
  rw [← hFL] at HD HFB HFL hc2 hr2 ⊢
  have q0 := box_cell hb2 0 _ rfl
  have q1 := box_cell hb2 1 _ rfl
  have q2 := box_cell hb2 2 _ rfl
  have q3 := box_cell hb2 3 _ rfl
  have HBB := Aside0.mk hb2
  have HB2 := Aside0.mk (hB0.trans (hb2.mono hB0.size))
  have HR2 := Aside0.mk hr2
  clear hb2 hB0 hr2 ho2 hFL
  go_wp2_with fail
  refine (windbreakref10_Right.calls d s a A c l true _ (Kd.C_below H.out.reads HB2.out) H.out.cap (by rw [rightB_ref, HR.out])).mono ?_
  rintro e w3 ⟨rfl, hb3⟩
  have HB3 := Aside0.mk (HB2.out.trans (hb3.mono HB2.out.size))
  have HR3 := Aside0.mk (Kd.C_below HR2.out hb3)
  have HBB3 := Aside0.mk (HBB.out.trans (hb3.mono HBB.out.size))
  clear hb3 q0 q1 q2 q3
  go_wp2_with fail
  refine (decode_calls A2 c2 FL _ HR3.out hc2 HFL.out.1 HFB.out _ _ HD.out).mono ?_
  rintro e w4 ⟨V4, rfl, ho4, hb4⟩
  obtain ⟨A4, c4, rfl, hc4, hr4⟩ := Kd.R_reads ho4
  change l.length ≤ c4 at hc4
  have HB4 := Aside0.mk (HB3.out.trans (hb4.mono HB3.out.size))
  have HBB4 := Aside0.mk (HBB3.out.trans (hb4.mono HBB3.out.size))
  have q0 : ∀ o, (w4.alloc o).cell? ⟨w.heap.size, 0, none⟩ = some (.bool d) := fun o => box_cell (HBB4.out.alloc HBB4.out.size o) 0 _ rfl
  have q1 : ∀ o, (w4.alloc o).cell? ⟨w.heap.size, 1, none⟩ = some (.int .i64 (s : Int)) := fun o => box_cell (HBB4.out.alloc HBB4.out.size o) 1 _ rfl
  have q2 : ∀ o, (w4.alloc o).cell? ⟨w.heap.size, 2, none⟩ = some (.int .i64 (a : Int)) := fun o => box_cell (HBB4.out.alloc HBB4.out.size o) 2 _ rfl
  have q3 : ∀ o, (w4.alloc o).cell? ⟨w.heap.size, 3, none⟩ = some (.slice A l.length c) := fun o => box_cell (HBB4.out.alloc HBB4.out.size o) 3 _ rfl
  have HR4 := Aside0.mk hr4
  clear ho4 hb4 hr4
  have hgt : (0 : Int) < (FL.length : Int) := by have := HFL.out.2; omega
  go_wp2_with fail
  have hsame : windbreakref10_Same.f d s a l d s a l = some true := by unfold windbreakref10_Same.f; simp
  obtain ⟨W5, hW5⟩ : ∃ W, W = w4.alloc (.cells #[.bool d, .int .i64 (s : Int), .int .i64 (a : Int), .slice A4 l.length c4] 53) := ⟨_, rfl⟩
  have hB5 : Below w.heap.size w W5 := by rw [hW5]; exact HB4.out.alloc HB4.out.size _
  have hr5 : (Kd.int .u8).C W5 A4 l.length l := by rw [hW5]; exact Kd.C_alloc HR4.out _
  rw [← hW5]
  refine (windbreakref10_Same.calls d s a A4 c4 l d s a A c l true _ hr5 hc4 (Kd.C_below H.out.reads hB5) H.out.cap hsame).mono ?_
  rintro e w6 ⟨rfl, hb6⟩
  have HB6 := Aside0.mk (hB5.trans (hb6.mono hB5.size))
  clear hb6 hB5 hr5 hsame hW5 q0 q1 q2 q3
  go_wp2_with fail
  go_ret
  exact ⟨rfl, HB6.out⟩
theorem frameBack_walk (x : Fr × Option Addr × Nat) (w : World) (h : IsFr w x.2.1 x.2.2 x.1) :
    Calls Try.prog 9 #[.agg #[.bool x.1.1, .int .i64 x.1.2.1, .int .i64 x.1.2.2.1, .slice x.2.1 x.1.2.2.2.length x.2.2]] w fun e w' => e = .returned (.bool true) ∧ Below w.heap.size w w' := by
  obtain ⟨⟨d, s, a, l⟩, A, c⟩ := x
  cases hr : rightB d s a l.length with
  | false => exact back_no d s a l A c w h hr
  | true =>
    obtain ⟨S, B, rfl, rfl, hs, ha, hl⟩ := right_facts hr
    exact back_yes d S B l A c w h hr hs ha hl
end Go.Proofs.Ytekakngojhnleaa.Bk
/- Links: an end's state as plain numbers and lists, each call as a plain function; how an end of the program lies in memory. -/
namespace Go.Proofs.Ytekakngojhnleaa.Lp
open Go.RowKit Go.Maps Go.Proofs.Ytekakngojhnleaa.Mp Go.Proofs.Ytekakngojhnleaa.Mq Go.Proofs.Ytekakngojhnleaa.En Go.Proofs.Ytekakngojhnleaa.Dw Go.Proofs.YtekakngojhnleaaW.PrintWords Go.Proofs.YtekakngojhnleaaW.PrintLast Go.Proofs.YtekakngojhnleaaW.PrintMore
set_option linter.unusedVariables false
set_option linter.unusedSimpArgs false

structure Lk where
  window : Nat
  sure : Nat
  sent : Nat
  told : Nat
  took : List (List Int)
  all : List (List Int)
  hold : Int → Option (List Int)
  owes : Bool
  tick : Bool
def newL (n : Nat) : Lk := ⟨n, 0, 0, 0, [], [], fun _ => none, false, false⟩
def fData (σ : Lk) (s : Nat) : List Int := frameL true s σ.all.length (σ.took.getD s [])
def fAck (σ : Lk) : List Int := frameL false 0 σ.all.length []
def sendL (σ : Lk) (b : List Int) : Int × Lk :=
  if b.length > 1048576 ∨ σ.took.length ≥ 1073741824 then (1, σ) else if σ.took.length - σ.sure ≥ 64 then (15, σ) else (0, { σ with took := σ.took ++ [b] })
def tickL (σ : Lk) : Lk := { σ with tick := true }
def newSent (σ : Lk) : Nat := max σ.sent (min (σ.sure + σ.window) σ.took.length)
def dueL (σ : Lk) : List Nat := (if σ.tick then List.range' σ.sure (σ.sent - σ.sure) else []) ++ List.range' σ.sent (newSent σ - σ.sent)
def outL (σ : Lk) : List (List Int) × Lk :=
  ((if (dueL σ).length = 0 ∧ σ.owes = true then [fAck σ] else (dueL σ).map (fData σ)), { σ with sent := newSent σ, owes := false, tick := false })
def setH (f : Int → Option (List Int)) (x : Int) (v : Option (List Int)) : Int → Option (List Int) := fun y => if y = x then v else f y
def pull : Nat → (Int → Option (List Int)) → List (List Int) → (Int → Option (List Int)) × List (List Int)
  | 0, h, a => (h, a)
  | k + 1, h, a => match h (a.length : Int) with | none => (h, a) | some l => pull k (setH h (a.length : Int) none) (a ++ [l])
def takeH (σ : Lk) (s : Int) (b : List Int) : Int → Option (List Int) := if (σ.hold s).isSome = false ∧ (σ.all.length : Int) ≤ s ∧ s < (σ.all.length : Int) + 16 then setH σ.hold s (some b) else σ.hold
def inL (σ : Lk) (b : List Int) : Int × Lk :=
  if (decA b).2 ≠ 0 ∨ (decA b).1.2.2.1 > (σ.sent : Int) then (14, σ)
  else if (decA b).1.1 = false then (0, { σ with sure := max σ.sure (decA b).1.2.2.1.toNat })
  else (0, { σ with sure := max σ.sure (decA b).1.2.2.1.toNat, owes := true, hold := (pull 17 (takeH σ (decA b).1.2.1 (decA b).1.2.2.2) σ.all).1, all := (pull 17 (takeH σ (decA b).1.2.1 (decA b).1.2.2.2) σ.all).2 })
def nextL (σ : Lk) : Option (List Int) × Lk := if h : σ.told < σ.all.length then (some σ.all[σ.told], { σ with told := σ.told + 1 }) else (none, σ)

/-- Bytes of a message. -/
def okB (l : List Int) : Prop := l.length ≤ 1048576 ∧ ∀ x ∈ l, 0 ≤ x ∧ x < 256
structure Inv (N : Nat) (σ : Lk) : Prop where
  w0 : 1 ≤ σ.window
  w1 : σ.window ≤ 16
  s0 : σ.sure ≤ σ.sent
  s1 : σ.sent ≤ σ.took.length
  s2 : σ.sent ≤ σ.sure + σ.window
  s3 : σ.took.length ≤ σ.sure + 64
  tk : σ.took.length ≤ N
  tl : σ.told ≤ σ.all.length
  al : σ.all.length ≤ 17 * N
  ht : ∀ l ∈ σ.took, okB l
  ha : ∀ l ∈ σ.all, okB l
  hh : ∀ x l, σ.hold x = some l → (σ.all.length : Int) < x ∧ x < (σ.all.length : Int) + 16 ∧ okB l
theorem Inv.mono {N M : Nat} {σ : Lk} (h : Inv N σ) (hm : N ≤ M) : Inv M σ :=
  ⟨h.w0, h.w1, h.s0, h.s1, h.s2, h.s3, Nat.le_trans h.tk hm, h.tl, Nat.le_trans h.al (Nat.mul_le_mul_left _ hm), h.ht, h.ha, h.hh⟩
theorem newInv {n : Nat} (h0 : 1 ≤ n) (h1 : n ≤ 16) : Inv 0 (newL n) :=
  ⟨h0, h1, Nat.le_refl _, Nat.le_refl _, Nat.zero_le _, Nat.zero_le _, Nat.le_refl _, Nat.le_refl _, Nat.zero_le _, fun l h => by simp [newL] at h, fun l h => by simp [newL] at h, fun x l h => by simp [newL] at h⟩
theorem Inv.send {N : Nat} {σ : Lk} (h : Inv N σ) (b : List Int) (hb : ∀ x ∈ b, 0 ≤ x ∧ x < 256) : Inv (N + 1) (sendL σ b).2 := by
  unfold sendL
  split
  · exact h.mono (Nat.le_succ _)
  split
  · exact h.mono (Nat.le_succ _)
  · rename_i h1 h2
    have hlen : (σ.took ++ [b]).length = σ.took.length + 1 := by simp
    refine ⟨h.w0, h.w1, h.s0, by show σ.sent ≤ (σ.took ++ [b]).length; rw [hlen]; exact Nat.le_succ_of_le h.s1, h.s2, by show (σ.took ++ [b]).length ≤ _; rw [hlen]; show _ ≤ σ.sure + 64; omega, by show (σ.took ++ [b]).length ≤ _; rw [hlen]; exact Nat.succ_le_succ h.tk, h.tl, Nat.le_trans h.al (Nat.mul_le_mul_left _ (Nat.le_succ _)), ?_, h.ha, h.hh⟩
    intro l hl
    rcases List.mem_append.1 hl with hl | hl
    · exact h.ht l hl
    · rw [List.mem_singleton] at hl
      subst hl
      exact ⟨by omega, hb⟩
theorem Inv.ticks {N : Nat} {σ : Lk} (h : Inv N σ) : Inv N (tickL σ) := ⟨h.w0, h.w1, h.s0, h.s1, h.s2, h.s3, h.tk, h.tl, h.al, h.ht, h.ha, h.hh⟩
theorem newSent_le {N : Nat} {σ : Lk} (h : Inv N σ) : σ.sent ≤ newSent σ ∧ newSent σ ≤ σ.took.length ∧ newSent σ ≤ σ.sure + σ.window := by
  unfold newSent
  have := h.s1; have := h.s2
  omega
theorem Inv.out {N : Nat} {σ : Lk} (h : Inv N σ) : Inv N (outL σ).2 := by
  have hn := newSent_le h
  exact ⟨h.w0, h.w1, Nat.le_trans h.s0 hn.1, hn.2.1, hn.2.2, h.s3, h.tk, h.tl, h.al, h.ht, h.ha, h.hh⟩
theorem Inv.next {N : Nat} {σ : Lk} (h : Inv N σ) : Inv N (nextL σ).2 := by
  unfold nextL
  split
  · rename_i h1
    exact ⟨h.w0, h.w1, h.s0, h.s1, h.s2, h.s3, h.tk, h1, h.al, h.ht, h.ha, h.hh⟩
  · exact h
/-- What stands held lies in the window. -/
def HW (h : Int → Option (List Int)) (a : List (List Int)) (top : Int) : Prop := (∀ x l, h x = some l → (a.length : Int) ≤ x ∧ x < top ∧ okB l) ∧ ∀ l ∈ a, okB l
theorem pull_ok (top : Int) : ∀ (k : Nat) (h : Int → Option (List Int)) (a : List (List Int)), HW h a top → top ≤ (a.length : Int) + k →
    HW (pull k h a).1 (pull k h a).2 top ∧ (pull k h a).1 ((pull k h a).2.length : Int) = none ∧ a.length ≤ (pull k h a).2.length ∧ (pull k h a).2.length ≤ a.length + k := by
  intro k
  induction k with
  | zero =>
    intro h a hw ht
    refine ⟨hw, ?_, Nat.le_refl _, Nat.le_refl _⟩
    show h (a.length : Int) = none
    cases he : h (a.length : Int) with
    | none => rfl
    | some l => have := (hw.1 _ l he).2.1; omega
  | succ k ih =>
    intro h a hw ht
    unfold pull
    split
    · rename_i he
      exact ⟨hw, he, Nat.le_refl _, Nat.le_add_right _ _⟩
    · rename_i l he
      have hlen : (a ++ [l]).length = a.length + 1 := by simp
      have hw' : HW (setH h (a.length : Int) none) (a ++ [l]) top := by
        refine ⟨fun x l' hx => ?_, fun l' hl' => ?_⟩
        · unfold setH at hx
          by_cases e : x = (a.length : Int)
          · rw [if_pos e] at hx; cases hx
          · rw [if_neg e] at hx
            have := hw.1 x l' hx
            rw [hlen]
            exact ⟨by omega, this.2⟩
        · rcases List.mem_append.1 hl' with h1 | h1
          · exact hw.2 l' h1
          · rw [List.mem_singleton] at h1; subst h1; exact (hw.1 _ _ he).2.2
      obtain ⟨r1, r2, r3, r4⟩ := ih _ _ hw' (by rw [hlen]; omega)
      rw [hlen] at r3 r4
      exact ⟨r1, r2, by omega, by omega⟩
theorem num_sub (most : Int) (xs : List Int) : ∀ y ∈ (Rd.rNum most xs).2.2, y ∈ xs := by
  unfold Rd.rNum
  split
  · exact fun y h => h
  · exact fun y h => List.mem_of_mem_drop h
theorem byt_sub (most : Int) (xs : List Int) : ∀ y ∈ (Rd.rByt most xs).1, y ∈ xs := by
  unfold Rd.rByt
  split
  · intro y h; cases h
  · exact fun y h => List.mem_of_mem_drop (List.mem_of_mem_take h)
theorem dec_ok (b : List Int) (hb : ∀ x ∈ b, 0 ≤ x ∧ x < 256) (h : (decA b).2 = 0) : okB (decA b).1.2.2.2 := by
  unfold decA at h ⊢
  by_cases h1 : b.length < 5 ∨ 1 < rd b 0
  · rw [if_pos h1] at h; cases h
  · rw [if_neg h1] at h ⊢
    unfold De.decF at h ⊢
    by_cases h2 : (Rd.rNum 1073741824 ((b.take (b.length - 4)).drop 1)).2.1 = 0 ∧ (Rd.rNum 1073741824 (Rd.rNum 1073741824 ((b.take (b.length - 4)).drop 1)).2.2).2.1 = 0 ∧ (Rd.rByt 1048576 (Rd.rNum 1073741824 (Rd.rNum 1073741824 ((b.take (b.length - 4)).drop 1)).2.2).2.2).2.1 = 0 ∧
      (Rd.rByt 1048576 (Rd.rNum 1073741824 (Rd.rNum 1073741824 ((b.take (b.length - 4)).drop 1)).2.2).2.2).2.2.length = 0 ∧ De.beN (b.drop (b.length - 4)) 0 = sumN (b.take (b.length - 4)) ∧
      Rt.rightB (rd b 0 == 1) (Rd.rNum 1073741824 ((b.take (b.length - 4)).drop 1)).1 (Rd.rNum 1073741824 (Rd.rNum 1073741824 ((b.take (b.length - 4)).drop 1)).2.2).1 (Rd.rByt 1048576 (Rd.rNum 1073741824 (Rd.rNum 1073741824 ((b.take (b.length - 4)).drop 1)).2.2).2.2).1.length = true
    · rw [if_pos h2]
      obtain ⟨S, B, _, _, _, _, hl⟩ := En.right_facts h2.2.2.2.2.2
      exact ⟨hl, fun x hx => hb x (List.mem_of_mem_take (List.mem_of_mem_drop (num_sub _ _ _ (num_sub _ _ _ (byt_sub _ _ x hx)))))⟩
    · rw [if_neg h2] at h; cases h
theorem Inv.in_ {N : Nat} {σ : Lk} (h : Inv N σ) (b : List Int) (hb : ∀ x ∈ b, 0 ≤ x ∧ x < 256) : Inv (N + 1) (inL σ b).2 := by
  unfold inL
  split
  · exact h.mono (Nat.le_succ _)
  · rename_i h1
    have h2 : (decA b).2 = 0 ∧ (decA b).1.2.2.1 ≤ (σ.sent : Int) := by constructor <;> omega
    have hs : max σ.sure (decA b).1.2.2.1.toNat ≤ σ.sent := by have := h.s0; omega
    have hs2 : σ.sure ≤ max σ.sure (decA b).1.2.2.1.toNat := Nat.le_max_left _ _
    have a0 := h.s2; have a1 := h.s3
    split
    · exact ⟨h.w0, h.w1, hs, h.s1, by show σ.sent ≤ max _ _ + σ.window; omega, by show σ.took.length ≤ max _ _ + 64; omega, Nat.le_succ_of_le h.tk, h.tl, Nat.le_trans h.al (Nat.mul_le_mul_left _ (Nat.le_succ _)), h.ht, h.ha, h.hh⟩
    · have hok := dec_ok b hb h2.1
      have hw : HW (takeH σ (decA b).1.2.1 (decA b).1.2.2.2) σ.all ((σ.all.length : Int) + 16) := by
        refine ⟨fun x l hx => ?_, h.ha⟩
        unfold takeH at hx
        split at hx
        · rename_i hc
          unfold setH at hx
          by_cases e : x = (decA b).1.2.1
          · rw [if_pos e] at hx
            cases hx
            rw [e]
            exact ⟨hc.2.1, hc.2.2, hok⟩
          · rw [if_neg e] at hx
            have := h.hh x l hx
            exact ⟨by omega, this.2⟩
        · have := h.hh x l hx
          exact ⟨by omega, this.2⟩
      obtain ⟨r1, r2, r3, r4⟩ := pull_ok _ 17 _ _ hw (by omega)
      refine ⟨h.w0, h.w1, hs, h.s1, by show σ.sent ≤ max _ _ + σ.window; omega, by show σ.took.length ≤ max _ _ + 64; omega, Nat.le_succ_of_le h.tk, Nat.le_trans h.tl r3, ?_, h.ht, r1.2, fun x l hx => ?_⟩
      · have := h.al
        show (pull 17 _ _).2.length ≤ _
        omega
      · have g := r1.1 x l hx
        refine ⟨?_, ?_, g.2.2⟩
        · have hne : x ≠ ((pull 17 (takeH σ (decA b).1.2.1 (decA b).1.2.2.2) σ.all).2.length : Int) := by
            intro e
            rw [e] at hx
            have hx' : (pull 17 (takeH σ (decA b).1.2.1 (decA b).1.2.2.2) σ.all).1 ((pull 17 (takeH σ (decA b).1.2.1 (decA b).1.2.2.2) σ.all).2.length : Int) = some l := hx
            rw [r2] at hx'
            cases hx'
          have := g.1
          show ((pull 17 _ _).2.length : Int) < x
          omega
        · have := g.2.1
          show x < ((pull 17 _ _).2.length : Int) + 16
          omega
end Go.Proofs.Ytekakngojhnleaa.Lp
/- Links: how an end of the program lies in memory: rows of headers, bodies that are only read. -/
namespace Go.Proofs.Ytekakngojhnleaa.Lm
open Go.RowKit Go.Maps Go.Proofs.Ytekakngojhnleaa.Mp Go.Proofs.Ytekakngojhnleaa.Mq Go.Proofs.Ytekakngojhnleaa.Lp Go.Proofs.YtekakngojhnleaaW.PrintWords Go.Proofs.YtekakngojhnleaaW.PrintLast Go.Proofs.YtekakngojhnleaaW.PrintMore
set_option linter.unusedVariables false
set_option linter.unusedSimpArgs false

/-- A slice's header. -/
structure Hd where
  a : Option Addr
  n : Nat
  c : Nat
def encH (h : Hd) : Value := .slice h.a h.n h.c
def kH : Kd Hd := Kd.scalar encH (fun _ => rfl)
/-- A body: a row of bytes of its own, never written again. -/
def Bd (w : World) (B : Nat) (v : Value) (l : List Int) : Prop := (Kd.int .u8).R 5 w B (fun k => some k = v.ownBlock) v l
/-- No row of bytes is turned. -/
def Keep5 (w w' : World) : Prop := ∀ (k : Nat) (cs : Array Value), w.heap[k]? = some (Obj.cells cs 5 (0, 0)) → w'.heap[k]? = w.heap[k]?
theorem Keep5.refl (w : World) : Keep5 w w := fun _ _ _ => rfl
theorem Keep5.trans {a b c : World} (h : Keep5 a b) (k : Keep5 b c) : Keep5 a c := fun i cs hi => (k i cs ((h i cs hi).trans hi)).trans (h i cs hi)
theorem Keep5.below {w w' : World} (h : Below w.heap.size w w') : Keep5 w w' := fun i cs hi => h.block i (blk_lt hi)
theorem Keep5.set {w : World} {g j t : Nat} {v : Value} {cs : Array Value} (h : w.heap[g]? = some (.cells cs t (0, 0))) (ht : t ≠ 5) : Keep5 w (w.setCell ⟨g, j, none⟩ v) := fun i cs' hi =>
  Below.heap_setCell w _ v i (by rintro rfl; rw [h] at hi; cases hi; exact ht rfl)
theorem Keep5.grown {w w' : World} {row : Option Nat} (hg : w.grownBy w' row) (hr : ∀ k, row = some k → ∀ cs, w.heap[k]? ≠ some (.cells cs 5 (0, 0))) : Keep5 w w' := fun i cs hi =>
  hg.block i (blk_lt hi) (fun e => hr i e.symm cs hi)
theorem Bd.keep {w w' : World} {B : Nat} {v : Value} {l : List Int} (h : Bd w B v l) (hk : Keep5 w w') : Bd w' B v l :=
  Kd.R_step h (fun k ho _ => by obtain ⟨cs, hc⟩ := Kd.R_typed h k ho.symm; exact hk k cs hc)
theorem Bd.of {w : World} {B base : Nat} {ok : Nat → Prop} {v : Value} {l : List Int} (h : (Kd.int .u8).R 5 w base ok v l) (hb : B ≤ base) : Bd w B v l := Kd.R_lower (Kd.R_tight rfl h) hb
/-- Headers and what stands behind them. -/
def Bods (w : World) (B : Nat) (hs : List Hd) (ls : List (List Int)) : Prop := hs.length = ls.length ∧ ∀ (i : Nat) h l, hs[i]? = some h → ls[i]? = some l → Bd w B (encH h) l
theorem Bods.keep {w w' : World} {B : Nat} {hs : List Hd} {ls : List (List Int)} (h : Bods w B hs ls) (hk : Keep5 w w') : Bods w' B hs ls := ⟨h.1, fun i a l h1 h2 => (h.2 i a l h1 h2).keep hk⟩
theorem Bods.nil (w : World) (B : Nat) : Bods w B [] [] := ⟨rfl, fun i h l h1 => by simp at h1⟩
theorem Bods.drop {w : World} {B : Nat} {hs : List Hd} {ls : List (List Int)} (h : Bods w B hs ls) (k : Nat) : Bods w B (hs.drop k) (ls.drop k) :=
  ⟨by rw [List.length_drop, List.length_drop, h.1], fun i a l h1 h2 => h.2 (k + i) a l (by rw [List.getElem?_drop] at h1; exact h1) (by rw [List.getElem?_drop] at h2; exact h2)⟩
theorem Bods.snoc {w : World} {B : Nat} {hs : List Hd} {ls : List (List Int)} (h : Bods w B hs ls) {a : Hd} {l : List Int} (ha : Bd w B (encH a) l) : Bods w B (hs ++ [a]) (ls ++ [l]) := by
  refine ⟨by simp [h.1], fun i b m h1 h2 => ?_⟩
  rcases Nat.lt_or_ge i hs.length with hi | hi
  · rw [List.getElem?_append_left hi] at h1
    rw [List.getElem?_append_left (by rw [← h.1]; exact hi)] at h2
    exact h.2 i b m h1 h2
  · rw [List.getElem?_append_right hi] at h1
    rw [List.getElem?_append_right (by rw [← h.1]; exact hi), ← h.1] at h2
    have h0 : i - hs.length = 0 := by
      rcases Nat.eq_zero_or_pos (i - hs.length) with e | e
      · exact e
      · rw [List.getElem?_eq_none (by simp; omega)] at h1; cases h1
    rw [h0] at h1 h2
    cases h1; cases h2
    exact ha
/-- What the map of the messages ahead of their turn holds. -/
def Held (w : World) (B : Nat) (f : Int → Option Value) (hold : Int → Option (List Int)) : Prop :=
  ∀ x, I64 x → match hold x with | none => f x = none | some l => ∃ v, f x = some v ∧ Bd w B v l
theorem Held.keep {w w' : World} {B : Nat} {f : Int → Option Value} {hold : Int → Option (List Int)} (h : Held w B f hold) (hk : Keep5 w w') : Held w' B f hold := by
  intro x hx
  have := h x hx
  cases hy : hold x with
  | none => rw [hy] at this; exact this
  | some l => rw [hy] at this; obtain ⟨v, hv, hb⟩ := this; exact ⟨v, hv, hb.keep hk⟩
def cellsE (σ : Lk) (vq vi : Value) (b : Nat) : Array Value :=
  #[.int .i64 (σ.window : Int), vq, .int .i64 (σ.sure : Int), .int .i64 (σ.sent : Int), vi, .int .i64 (σ.all.length : Int), .map (some b), .bool σ.owes, .bool σ.tick]
/-- An end of the program; S: the blocks that it may turn. -/
structure LPx (w : World) (B N : Nat) (S : Nat → Prop) (p : Nat) (σ : Lk) (b : Nat) (vq vi : Value) (hq hi : List Hd) (n s : Nat) (f : Int → Option Value) : Prop where
  blk : w.heap[p]? = some (.cells (cellsE σ vq vi b) 82 (0, 0))
  q : kH.Q 30 w B (fun k => some k = vq.ownBlock) vq hq
  qb : Bods w B hq (σ.took.drop σ.sure)
  i : kH.Q 30 w B (fun k => some k = vi.ownBlock) vi hi
  ib : Bods w B hi (σ.all.drop σ.told)
  m : IntMap Try.prog 3 w b n f s
  mn : n ≤ N
  mf : Held w B f σ.hold
  sp : S p
  sb : S b
  sq : ∀ k, vq.ownBlock = some k → S k
  si : ∀ k, vi.ownBlock = some k → S k
  ap : ∀ k, vq.ownBlock = some k → vi.ownBlock ≠ some k
  lt : ∀ k, S k → k < w.heap.size
  ge : ∀ k, S k → B ≤ k
def LP (w : World) (B N : Nat) (S : Nat → Prop) (p : Nat) (σ : Lk) : Prop := ∃ b vq vi hq hi n s f, LPx w B N S p σ b vq vi hq hi n s f
/-- What a call keeps: all but S; and S may have grown by new blocks alone. -/
structure FrL (B : Nat) (S S' : Nat → Prop) (w w' : World) : Prop where
  b : Below B w w'
  k : Kept w w' S
  k5 : Keep5 w w'
  s : ∀ k, S' k → S k ∨ w.heap.size ≤ k
end Go.Proofs.Ytekakngojhnleaa.Lm
