/- The reader's Number, Int and Bytes: what each tells, and what is left. -/
import Derived.Test.YtekakngojhnleaaRd
namespace Go.Proofs.Ytekakngojhnleaa.Rd
set_option linter.unusedSimpArgs false
set_option linter.unusedVariables false
open Go.RowKit Go.Proofs.Ytekakngojhnleaa.PFrameDecodes Go.Proofs.YtekakngojhnleaaW.PrintWords Go.Proofs.YtekakngojhnleaaW.PrintLast Go.Proofs.YtekakngojhnleaaW.PrintMore

def rNum (most : Int) (xs : List Int) : Int × Int × List Int :=
  if (nx 0 0 xs).2 = 0 ∨ most < (nx 0 0 xs).1 then (0, 13, xs) else ((nx 0 0 xs).1, 0, xs.drop (nx 0 0 xs).2)
def szI (n : Int) : Int := IntKind.u64.wrap (n / 2 + Go.bits .and .u64 n 1)
def valI (n : Int) : Int := Go.bits .xor .i64 (wrap64 (n / 2)) (wrap64 (-wrap64 (Go.bits .and .u64 n 1)))
def rInt (most : Int) (xs : List Int) : Int × Int × List Int :=
  if (nx 0 0 xs).2 = 0 ∨ most < 0 ∨ IntKind.u64.wrap most < szI (nx 0 0 xs).1 then (0, 13, xs) else (valI (nx 0 0 xs).1, 0, xs.drop (nx 0 0 xs).2)
def rByt (most : Int) (xs : List Int) : List Int × Int × List Int :=
  if (nx 0 0 xs).2 = 0 ∨ most < 0 ∨ most < (nx 0 0 xs).1 ∨ (xs.length : Int) - (nx 0 0 xs).2 < (nx 0 0 xs).1 then ([], 13, xs)
  else ((xs.drop (nx 0 0 xs).2).take (nx 0 0 xs).1.toNat, 0, xs.drop ((nx 0 0 xs).2 + (nx 0 0 xs).1.toNat))

theorem rnumber_calls (g : Nat) (xs : List Int) (w0 w : World) (hI : IsRd w0 w g xs) (hB : Below w0.heap.size w0 w) (most : Int) (x e : Int) (ys : List Int) (h : rNum most xs = (x, e, ys)) :
    Calls Try.prog 56 #[.pointer (some ⟨g, 0, none⟩), .int .u64 most] w fun e' w' => e' = .returned (.tuple #[.int .u64 x, .int .i64 e]) ∧ IsRd w0 w' g ys ∧ Below w0.heap.size w0 w' ∧ KeepBut w w' g none := by
  unfold rNum at h
  split at h
  · rename_i hc
    injection h with h1 h2
    injection h2 with h2 h3
    subst h1 h2 h3
    refine (rnumber_no g xs w0 w hI hB most _ _ rfl hc).mono ?_
    rintro e w1 ⟨rfl, rfl⟩
    exact ⟨rfl, hI, hB, KeepBut.refl _ _ _⟩
  · rename_i hc
    injection h with h1 h2
    injection h2 with h2 h3
    subst h1 h2 h3
    exact rnumber_yes g xs w0 w hI hB most _ _ rfl (by omega) (by omega)

theorem or_u64_range (a b : Int) : 0 ≤ Go.bits .or .u64 a b ∧ Go.bits .or .u64 a b < 18446744073709551616 := by
  have e : Go.bits .or .u64 a b = IntKind.u64.wrap ((BitVec.ofInt 64 a ||| BitVec.ofInt 64 b).toNat : Int) := rfl
  rw [e, IntKind.wrap_u64]
  omega
theorem nx_range (xs : List Int) : ∀ (i : Nat) (n : Int), 0 ≤ (nx i n xs).1 ∧ (nx i n xs).1 < 18446744073709551616 := by
  induction xs with
  | nil => intro i n; simp [nx]
  | cons c cs ih =>
    intro i n
    unfold nx
    split
    · simp
    · split
      · simp
      · split
        · exact or_u64_range _ _
        · exact ih _ _

theorem clone_calls' (A : Option Addr) (c : Nat) (xs : List Int) (n : Nat) (w : World) (hr : Kd.C (Kd.int .u8) w A xs.length xs) (hn : n = xs.length) (hl : xs.length ≤ 140737488355328) :
    Calls Try.prog 51 #[.slice A n c] w fun e w' => ∃ v, e = .returned v ∧ (Kd.int .u8).R 5 w' w.heap.size (fun _ => True) v xs ∧ Below w.heap.size w w' := by
  subst hn
  exact clone_calls A c xs w hr hl
theorem bytes_end {w0 w w1 : World} {g m n c : Nat} {xs ys : List Int} {A A' : Option Addr} {c' : Nat} {v : Value} {i : Int} (hb : w.heap[g]? = some (.cells #[.slice A xs.length c] 132 (0, 0))) (hg : w0.heap.size ≤ g) (h2 : m + n ≤ xs.length) (hB : Below w0.heap.size w0 w) (hB1 : Below w.heap.size w w1)
    (ho : (Kd.int .u8).R 5 w1 w.heap.size (fun _ => True) v ys) (hl2 : (xs.drop m).take n = ys) (hr : (Kd.int .u8).C w0 A' (xs.drop (m + n)).length (xs.drop (m + n))) (hc : xs.length - (m + n) ≤ c') :
    ∃ v', Ending.returned (.tuple #[v, .int .i64 i]) = .returned (.tuple #[v', .int .i64 i]) ∧ (Kd.int .u8).R 5 (w1.setCell ⟨g, 0, none⟩ (.slice A' (xs.length - (m + n)) c')) w.heap.size (fun _ => True) v' ((xs.drop m).take n) ∧
      IsRd w0 (w1.setCell ⟨g, 0, none⟩ (.slice A' (xs.length - (m + n)) c')) g (xs.drop (m + n)) ∧ Below w0.heap.size w0 (w1.setCell ⟨g, 0, none⟩ (.slice A' (xs.length - (m + n)) c')) ∧ KeepBut w (w1.setCell ⟨g, 0, none⟩ (.slice A' (xs.length - (m + n)) c')) g none := by
  subst hl2
  have hb1 : w1.heap[g]? = some (.cells #[.slice A xs.length c] 132 (0, 0)) := (hB1.block g (blk_lt hb)).trans hb
  refine ⟨v, rfl, Kd.R_set ho hb1 ?_ 0 _, rd_store hb1 hg (by simp; omega) hr (by simp), below_set (hB.trans (hB1.mono hB.size)) hg, (KeepBut.of_below hB1 g none).set_ _ _⟩
  intro q hq
  simp [Kd.int, Kd.scalar] at hq
  subst hq
  decide
theorem mid_same {w0 : World} {A : Option Addr} {c lo hi : Nat} {xs : List Int} (h : (Kd.int .u8).C w0 A xs.length xs) (h1 : lo ≤ hi) (h2 : hi ≤ xs.length) (hc : xs.length ≤ c) (e : c = lo) : (Kd.int .u8).C w0 A ((xs.take hi).drop lo).length ((xs.take hi).drop lo) := by
  have := Kd.C_mid h h1 h2 hc
  rwa [if_pos e] at this
theorem mid_on {w0 : World} {A : Option Addr} {c lo hi : Nat} {xs : List Int} (h : (Kd.int .u8).C w0 A xs.length xs) (h1 : lo ≤ hi) (h2 : hi ≤ xs.length) (hc : xs.length ≤ c) (e : ¬ c = lo) : (Kd.int .u8).C w0 (A.map fun x => x.add lo) ((xs.take hi).drop lo).length ((xs.take hi).drop lo) := by
  have := Kd.C_mid h h1 h2 hc
  rw [if_neg e] at this
  simpa [Kd.int, Kd.scalar] using this

set_option maxHeartbeats 800000 in
theorem rbytes_calls (g : Nat) (xs : List Int) (w0 w : World) (hI : IsRd w0 w g xs) (hB : Below w0.heap.size w0 w) (most : Int) (hl : xs.length ≤ 140737488355328) (hmost : most < 9223372036854775808) (x : List Int) (e : Int) (ys : List Int) (h : rByt most xs = (x, e, ys)) :
    Calls Try.prog 58 #[.pointer (some ⟨g, 0, none⟩), .int .i64 most] w fun e' w' => ∃ v, e' = .returned (.tuple #[v, .int .i64 e]) ∧ (Kd.int .u8).R 5 w' w.heap.size (fun _ => True) v x ∧ IsRd w0 w' g ys ∧ Below w0.heap.size w0 w' ∧ KeepBut w w' g none := by
  obtain ⟨n', m, hx⟩ : ∃ n m, nx 0 0 xs = (n, m) := ⟨_, _, rfl⟩
  have hm : m ≤ xs.length := by have := nx_le xs 0 0; rw [hx] at this; simpa using this
  have hr0 := nx_range xs 0 0
  rw [hx] at hr0
  obtain ⟨n, rfl⟩ := Int.eq_ofNat_of_zero_le hr0.1
  have hn64 : (n : Int) < 18446744073709551616 := hr0.2
  clear hr0
  unfold rByt at h
  rw [hx] at h
  simp only [Int.toNat_natCast] at h
  have H := Aside0.mk h
  have HX := Aside0.mk hx
  have HI := Aside0.mk hI
  obtain ⟨A, c, hb, hg, hcap, hr⟩ := hI
  have hcell : w.cell? ⟨g, 0, none⟩ = some (.slice A xs.length c) := (blk_cell hb 0).trans rfl
  have hfr : w.frozen? ⟨g, 0, none⟩ = false := blk_frozen hb 0
  have HBl := Aside0.mk hb
  have HR := Aside0.mk hr
  have hmax := Kd.C_max hr
  have HB := Aside0.mk hB
  clear h hx hr hb hB
  go_enter Try.func58, Try.ntmps58
  go_wp2_with fail
  refine (next_calls g xs w0 _ HI.out HB.out n m HX.out).mono ?_
  rintro e w1 ⟨rfl, rfl⟩
  by_cases h0 : m = 0
  · have hb0 : ((m : Int) == 0) = true := by simp; omega
    go_wp2
    go_ret2
    have h := H.out
    rw [if_pos (.inl h0)] at h
    injection h with h1 h2
    injection h2 with h2 h3
    subst h1 h2 h3
    exact ⟨_, rfl, Kd.R_nil _ _ _ _ _, HI.out, HB.out, KeepBut.refl _ _ _⟩
  · have hb0 : ((m : Int) == 0) = false := by simp; omega
    have h0' : 0 < m := by omega
    clear h0
    by_cases hn : most < 0
    · have h := H.out
      rw [if_pos (.inr (.inl hn))] at h
      injection h with h1 h2
      injection h2 with h2 h3
      subst h1 h2 h3
      go_wp2
      go_ret2
      exact ⟨_, rfl, Kd.R_nil _ _ _ _ _, HI.out, HB.out, KeepBut.refl _ _ _⟩
    · obtain ⟨M, rfl⟩ := Int.eq_ofNat_of_zero_le (show 0 ≤ most by omega)
      have HM := Aside0.mk hmost
      have HN := Aside0.mk hn64
      clear hmost hn64
      have hw : IntKind.u64.wrap (M : Int) = M := by rw [IntKind.wrap_u64]; have := HM.out; omega
      by_cases h1 : (n : Int) ≤ IntKind.u64.wrap (M : Int)
      · by_cases h2 : (n : Int) ≤ (xs.length : Int) - (m : Int)
        · have h := H.out
          rw [if_neg (by omega)] at h
          injection h with h3 h4
          injection h4 with h4 h5
          subst h3 h4 h5
          have hl1 : n = ((xs.take (m + n)).drop m).length := by simp; omega
          have hl2 : (xs.drop m).take n = (xs.take (m + n)).drop m := by rw [List.drop_take]; congr 1; omega
          have HL1 := Aside0.mk hl1
          have HL2 := Aside0.mk hl2
          have HH2 := Aside0.mk h2
          have HW := Aside0.mk hw
          clear hl1 hl2 hw
          go_wp2_with fail
          · have hcm : c = m := by assumption
            refine (clone_calls' A 0 _ n w (Kd.C_below (mid_same HR.out (by omega) (by have := HH2.out; omega) hcap hcm) HB.out) HL1.out (by simp; omega)).mono ?_
            rintro e w1 ⟨v, rfl, ho, hb1⟩
            have hcell1 : w1.cell? ⟨g, 0, none⟩ = some (.slice A xs.length c) := (hb1.cell (p := ⟨g, 0, none⟩) (blk_lt HBl.out)).trans hcell
            have hfr1 : w1.frozen? ⟨g, 0, none⟩ = false := (hb1.frozen (p := ⟨g, 0, none⟩) (blk_lt HBl.out)).trans hfr
            have HB1 := Aside0.mk hb1
            have HO := Aside0.mk ho
            have HC := Aside0.mk hcm
            clear hb1 ho hcm
            go_wp2_with fail
            go_ret2
            have hce : c = m + n := by have := HH2.out; have := HC.out; omega
            exact bytes_end HBl.out hg (by have := HH2.out; omega) HB.out HB1.out HO.out HL2.out (drop_same HR.out (by have := HH2.out; omega) hcap hce) (by omega)
          · have hcm : ¬ c = m := by assumption
            refine (clone_calls' _ _ _ n w (Kd.C_below (mid_on HR.out (by omega) (by have := HH2.out; omega) hcap hcm) HB.out) HL1.out (by simp; omega)).mono ?_
            rintro e w1 ⟨v, rfl, ho, hb1⟩
            have hcell1 : w1.cell? ⟨g, 0, none⟩ = some (.slice A xs.length c) := (hb1.cell (p := ⟨g, 0, none⟩) (blk_lt HBl.out)).trans hcell
            have hfr1 : w1.frozen? ⟨g, 0, none⟩ = false := (hb1.frozen (p := ⟨g, 0, none⟩) (blk_lt HBl.out)).trans hfr
            have HB1 := Aside0.mk hb1
            have HO := Aside0.mk ho
            clear hb1 ho
            go_wp2_with fail
            · have hce : c = m + n := by assumption
              go_ret2
              exact bytes_end HBl.out hg (by have := HH2.out; omega) HB.out HB1.out HO.out HL2.out (drop_same HR.out (by have := HH2.out; omega) hcap hce) (by omega)
            · have hce : ¬ c = m + n := by assumption
              go_ret2
              exact bytes_end HBl.out hg (by have := HH2.out; omega) HB.out HB1.out HO.out HL2.out (drop_on HR.out (by have := HH2.out; omega) hcap hce) (by omega)
        · have h := H.out
          rw [if_pos (by omega)] at h
          injection h with h3 h4
          injection h4 with h4 h5
          subst h3 h4 h5
          clear hw
          go_wp2
          go_ret2
          exact ⟨_, rfl, Kd.R_nil _ _ _ _ _, HI.out, HB.out, KeepBut.refl _ _ _⟩
      · have h := H.out
        rw [if_pos (by omega)] at h
        injection h with h3 h4
        injection h4 with h4 h5
        subst h3 h4 h5
        clear hw
        go_wp2
        go_ret2
        exact ⟨_, rfl, Kd.R_nil _ _ _ _ _, HI.out, HB.out, KeepBut.refl _ _ _⟩
end Go.Proofs.Ytekakngojhnleaa.Rd
