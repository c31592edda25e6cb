/- The document's reader: Bytes. -/
import Derived.Test.YtekakngojhnleaaNx
import Derived.Deep.RegionLaw
import Derived.Deep.RegionHeld3
namespace Go.Proofs.Ytekakngojhnleaa.Rd
set_option linter.unusedSimpArgs false
set_option linter.unusedVariables false
open Go.RowKit Go.Proofs.Ytekakngojhnleaa.Rf Go.Proofs.YtekakngojhnleaaW.PrintWords Go.Proofs.YtekakngojhnleaaW.PrintLast Go.Proofs.YtekakngojhnleaaW.PrintMore

/-- append(v, xs...) of bytes, v the call's own: one step of a region that draws its order. -/
theorem bytes_step {ops : Array Oper} {o : Oper} {a : Act} {Q : Exit → Act → World → Prop} {K : Act → World → Prop} {w0 W : World} (base : Nat) (hg : o.guard = none) (s x : Operand)
    (ho : o.op = .call { callee := .builtin .append, args := #[s, x], argTypes := #[30, 30] }) (v : Value) (xs ys : List Int) (A : Option Addr) (m c : Nat) (hs : a.eval s = v) (hx : a.eval x = .slice A m c)
    (HO : (Kd.int .u8).R 5 W base (fun _ => True) v xs) (HR : (Kd.int .u8).C W A m ys) (HB : Below base w0 W) (hbase : base ≤ W.heap.size) (hl : xs.length + m ≤ 140737488355328)
    (h : ∀ v1 w1, (Kd.int .u8).R 5 w1 base (fun _ => True) v1 (xs ++ ys) → Below base w0 w1 → W.grownBy w1 v.ownBlock → K (a.put o.dst v1) w1) :
    if Region.wanted o (yielded ops a.tmps) = true then Oper.wp Try.prog o a W K Q else K (a.put o.dst undef) W :=
  Kd.R_append_rows_step (Kd.int .u8) (w0 := w0) base (by simp [Region.wanted, hg]) s x 30 5 (.int .u8 0) 1 ho Try.underlying30 PFrameDecodes.info5 rfl (by decide) (by omega) v xs ys A m c (fun _ => True) (fun _ => False) hs hx HO HR
    (fun _ _ h => h) (fun _ h => h.elim) (fun _ _ => trivial) HB hbase (by omega) (fun v1 w1 h1 h2 h3 _ => h v1 w1 h1 h2 h3)

set_option maxHeartbeats 800000 in
theorem fbytes_yes (g : Nat) (xs : List Int) (at_ n m M : Nat) (w0 w : World) (hI : IsS118 w0 w g xs (at_ : Int)) (hB : Below w0.heap.size w0 w) (hl : xs.length ≤ 140737488355328)
    (hf : windbreakref09_Reader_next.f 32 xs (at_ : Int) = some ((n : Int), (m : Int), (at_ : Int))) (h0 : 0 < m) (hw : IntKind.u64.wrap (M : Int) = M) (h1 : n ≤ M) (h2 : at_ + m + n ≤ xs.length) :
    Calls Try.prog 69 #[.pointer (some ⟨g, 0, none⟩), .int .i64 (M : Int)] w fun e' w' => ∃ v, e' = .returned (.tuple #[v, .int .i64 0]) ∧ (Kd.int .u8).R 5 w' w.heap.size (fun _ => True) v ((xs.drop (at_ + m)).take n) ∧ IsS118 w0 w' g xs ((at_ + m + n : Nat) : Int) ∧ Below w0.heap.size w0 w' ∧ KeepBut w w' g none := by
  have HF := Aside0.mk hf
  have HI := Aside0.mk hI
  have HB := Aside0.mk hB
  have HW := Aside0.mk hw
  clear hf hI hB hw
  go_enter Try.func69, Try.ntmps69
  go_wp2_with fail
  refine (windbreakref09_Reader_next.calls 32 g xs (at_ : Int) _ _ _ w0 _ HI.out HB.out HF.out).mono ?_
  rintro e w1 ⟨rfl, hI1, hB1, hK1⟩
  obtain ⟨A, c, hb, ⟨hg, hcap⟩, hr⟩ := hI1
  have hcell0 : w1.cell? ⟨g, 0, none⟩ = some (.slice A xs.length c) := (blk_cell hb 0).trans rfl
  have hcell1 : w1.cell? ⟨g, 1, none⟩ = some (.int .i64 (at_ : Int)) := (blk_cell hb 1).trans rfl
  have hfr1 : w1.frozen? ⟨g, 1, none⟩ = false := blk_frozen hb 1
  have HBl := Aside0.mk hb
  have HR := Aside0.mk hr
  have HB1 := Aside0.mk hB1
  have HK1 := Aside0.mk hK1
  clear hb hr hB1 hK1
  have hb0 : ((m : Int) == 0) = false := by simp; omega
  have hng : decide ((M : Int) < 0) = false := by simp
  have hle : (n : Int) ≤ IntKind.u64.wrap (M : Int) := by rw [HW.out]; omega
  have hsub : IntKind.u64.wrap (IntKind.i64.wrap (IntKind.i64.wrap ((xs.length : Int) - (at_ : Int)) - (m : Int))) = (xs.length : Int) - (at_ : Int) - (m : Int) := by
    rw [IntKind.wrap_u64, IntKind.wrap_i64, IntKind.wrap_i64]; omega
  go_wp2_with fail
  go_quiet (fail)
  go_wp2_with fail
  obtain ⟨W2, hW2⟩ : ∃ W2, W2 = (w1.drewN nq).setCell ⟨g, 1, none⟩ (.int .i64 ((at_ : Int) + (m : Int) + (n : Int))) := ⟨_, rfl⟩
  rw [← hW2]
  have hb2 : W2.heap[g]? = some (.cells #[.slice A xs.length c, .int .i64 ((at_ : Int) + (m : Int) + (n : Int))] 118 (0, 0)) := by
    rw [hW2]
    have hq : (w1.drewN nq).heap[g]? = w1.heap[g]? := rfl
    simpa using blk_set (hq.trans HBl.out) 1 (.int .i64 ((at_ : Int) + (m : Int) + (n : Int)))
  have hB2 : Below w0.heap.size w0 W2 := by rw [hW2]; exact below_set (pw_below_drewN HB1.out nq) hg
  have hK2 : KeepBut w W2 g none := by rw [hW2]; exact (keep_drewN HK1.out nq).set_ _ _
  clear hW2 hcell0 hcell1 hfr1 hsub hle hng hb0
  have hcell0 : W2.drew.cell? ⟨g, 0, none⟩ = some (.slice A xs.length c) := (blk_cell hb2 0).trans rfl
  have hcell1 : W2.drew.cell? ⟨g, 1, none⟩ = some (.int .i64 ((at_ : Int) + (m : Int) + (n : Int))) := (blk_cell hb2 1).trans rfl
  have HBl2 := Aside0.mk hb2
  have HB2 := Aside0.mk hB2
  have HK2 := Aside0.mk hK2
  clear hb2 hB2 hK2
  have e1 : (0 : Int) ≤ (at_ : Int) + (m : Int) := by omega
  have e2 : (at_ : Int) + (m : Int) ≤ (at_ : Int) + (m : Int) + (n : Int) := by omega
  have e3 : (at_ : Int) + (m : Int) + (n : Int) ≤ (c : Int) := by omega
  have hne : ¬ W2.heap.size = g := Nat.ne_of_gt (blk_lt HBl2.out)
  have hcell0' : W2.cell? ⟨g, 0, none⟩ = some (.slice A xs.length c) := hcell0
  have hcell1' : W2.cell? ⟨g, 1, none⟩ = some (.int .i64 ((at_ : Int) + (m : Int) + (n : Int))) := hcell1
  have HC := Aside0.mk (show (Kd.int .u8).C (W2.alloc (.cells #[] 5)).drew (if c = ((at_ : Int) + (m : Int)).toNat then A else A.map fun x => x.add ((at_ : Int) + (m : Int)).toNat) (((at_ : Int) + (m : Int) + (n : Int)).toNat - ((at_ : Int) + (m : Int)).toNat) ((xs.drop (at_ + m)).take n) from by
    have h := Kd.C_below (Kd.C_mid HR.out (show at_ + m ≤ at_ + m + n by omega) (by omega) hcap) HB2.out
    have e : (xs.take (at_ + m + n)).drop (at_ + m) = (xs.drop (at_ + m)).take n := by rw [List.drop_take]; congr 1; omega
    rw [e] at h
    have e' : ((xs.drop (at_ + m)).take n).length = ((at_ : Int) + (m : Int) + (n : Int)).toNat - ((at_ : Int) + (m : Int)).toNat := by simp; omega
    have e'' : ((at_ : Int) + (m : Int)).toNat = at_ + m := by omega
    rw [e'] at h
    rw [e''] at h ⊢
    have h1 : (at_ + m) * (Kd.int .u8).sz = at_ + m := Nat.mul_one _
    rw [h1] at h
    exact Kd.C_drew (Kd.C_alloc h _))
  have HE := Aside0.mk (show (Kd.int .u8).R 5 (W2.alloc (.cells #[] 5)).drew W2.heap.size (fun _ => True) (.slice (some ⟨W2.heap.size, 0, none⟩) 0 0) [] from Kd.R_drew (R_empty (Kd.int .u8) 5 W2 W2.heap.size (Nat.le_refl _)))
  have HBE := Aside0.mk (show Below W2.heap.size W2 (W2.alloc (.cells #[] 5)).drew from below_drew (below_alloc (Below.refl _ _) _))
  have hS : W2.heap.size ≤ (W2.alloc (.cells #[] 5)).drew.heap.size := by simp
  have hL : (([] : List Int).length + (((at_ : Int) + (m : Int) + (n : Int)).toNat - ((at_ : Int) + (m : Int)).toNat)) ≤ 140737488355328 := by simp; omega
  go_region_held3 (fun w' => w'.cell? ⟨g, 0, none⟩ = some (.slice A xs.length c) ∧ w'.cell? ⟨g, 1, none⟩ = some (.int .i64 ((at_ : Int) + (m : Int) + (n : Int)))) (go_keep) ((refine bytes_step (w0 := W2) W2.heap.size (by rfl) (.tmp 56) (.tmp 66) (by rfl) _ [] _ _ _ (c - ((at_ : Int) + (m : Int)).toNat) (by rfl) (by rfl) HE.out HC.out HBE.out hS hL ?_; intro v1 w2 ho1 hb1 hg1; have k0 := (hb1.cell (p := ⟨g, 0, none⟩) (blk_lt HBl2.out)).trans hcell0'; have k1 := (hb1.cell (p := ⟨g, 1, none⟩) (blk_lt HBl2.out)).trans hcell1'))
  go_wp2_with fail
  all_goals
   go_ret2
   have hb2' : w2.heap[g]? = some (.cells #[.slice A xs.length c, .int .i64 ((at_ + m + n : Nat) : Int)] 118 (0, 0)) := by
    rw [Int.natCast_add, Int.natCast_add]
    exact (hb1.block g (blk_lt HBl2.out)).trans HBl2.out
   exact ⟨v1, rfl, Kd.R_lower (by simpa using ho1) HK2.out.1, ⟨A, c, hb2', ⟨hg, hcap⟩, HR.out⟩, HB2.out.trans (hb1.mono HB2.out.size), HK2.out.trans (KeepBut.of_below hb1 g none) (.inl rfl)⟩

set_option maxRecDepth 100000 in
set_option maxHeartbeats 800000 in
theorem fbytes_no (g : Nat) (xs : List Int) (at_ n m : Nat) (most : Int) (w0 w : World) (hI : IsS118 w0 w g xs (at_ : Int)) (hB : Below w0.heap.size w0 w) (hl : xs.length ≤ 140737488355328) (hat : at_ + m ≤ xs.length)
    (hf : windbreakref09_Reader_next.f 32 xs (at_ : Int) = some ((n : Int), (m : Int), (at_ : Int))) (h : m = 0 ∨ most < 0 ∨ (0 ≤ most ∧ IntKind.u64.wrap most = most ∧ most < (n : Int)) ∨ (0 ≤ most ∧ (n : Int) ≤ IntKind.u64.wrap most ∧ (xs.length : Int) - (at_ : Int) - (m : Int) < (n : Int))) :
    Calls Try.prog 69 #[.pointer (some ⟨g, 0, none⟩), .int .i64 most] w fun e' w' => e' = .returned (.tuple #[.slice none 0 0, .int .i64 13]) ∧ IsS118 w0 w' g xs (at_ : Int) ∧ Below w0.heap.size w0 w' ∧ KeepBut w w' g none := by
  have HF := Aside0.mk hf
  have HI := Aside0.mk hI
  have HB := Aside0.mk hB
  have HH := Aside0.mk h
  clear hf hI hB h
  go_enter Try.func69, Try.ntmps69
  go_wp2_with fail
  refine (windbreakref09_Reader_next.calls 32 g xs (at_ : Int) _ _ _ w0 _ HI.out HB.out HF.out).mono ?_
  rintro e w1 ⟨rfl, hI1, hB1, hK1⟩
  have HI1 := Aside0.mk hI1
  obtain ⟨A, c, hb, ⟨hg, hcap⟩, hr⟩ := hI1
  have hcell0 : w1.cell? ⟨g, 0, none⟩ = some (.slice A xs.length c) := (blk_cell hb 0).trans rfl
  have hcell1 : w1.cell? ⟨g, 1, none⟩ = some (.int .i64 (at_ : Int)) := (blk_cell hb 1).trans rfl
  have HB1 := Aside0.mk hB1
  have HK1 := Aside0.mk hK1
  clear hb hr hB1 hK1
  by_cases h0 : m = 0
  · have hb0 : ((m : Int) == 0) = true := by simp; omega
    go_wp2_with fail
    go_quiet (fail)
    go_wp2_with fail
    go_ret2
    exact ⟨rfl, IsS118.drewN HI1.out nq, pw_below_drewN HB1.out nq, keep_drewN HK1.out nq⟩
  · have hb0 : ((m : Int) == 0) = false := by simp; omega
    by_cases hn : most < 0
    · have hng : decide (most < 0) = true := by simp; omega
      go_wp2_with fail
      go_quiet (fail)
      go_wp2_with fail
      go_ret2
      exact ⟨rfl, IsS118.drewN HI1.out nq, pw_below_drewN HB1.out nq, keep_drewN HK1.out nq⟩
    · have hng : decide (most < 0) = false := by simp; omega
      rcases HH.out with h | h | h | h
      · exact absurd h h0
      · exact absurd h hn
      · have hlt : decide (IntKind.u64.wrap most < (n : Int)) = true := by rw [h.2.1]; simp; omega
        clear h h0 hn
        go_wp2_with fail
        go_quiet (fail)
        go_wp2_with fail
        go_ret2
        exact ⟨rfl, IsS118.drewN HI1.out nq, pw_below_drewN HB1.out nq, keep_drewN HK1.out nq⟩
      · have hlt : decide (IntKind.u64.wrap most < (n : Int)) = false := by have := h.2.1; simp; omega
        have hsub : IntKind.u64.wrap (IntKind.i64.wrap (IntKind.i64.wrap ((xs.length : Int) - (at_ : Int)) - (m : Int))) = (xs.length : Int) - (at_ : Int) - (m : Int) := by
          rw [IntKind.wrap_u64, IntKind.wrap_i64, IntKind.wrap_i64]; omega
        have hlt2 : decide ((xs.length : Int) - (at_ : Int) - (m : Int) < (n : Int)) = true := by have := h.2.2; simp; omega
        clear h h0 hn
        go_wp2_with fail
        go_quiet (fail)
        go_wp2_with fail
        go_ret2
        exact ⟨rfl, IsS118.drewN HI1.out nq, pw_below_drewN HB1.out nq, keep_drewN HK1.out nq⟩
end Go.Proofs.Ytekakngojhnleaa.Rd
