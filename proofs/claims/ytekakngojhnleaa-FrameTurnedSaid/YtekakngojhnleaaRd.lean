import Derived.Test.YtekakngojhnleaaPFrameDecodesx0
import Derived.Test.YtekakngojhnleaaCl
import Derived.Deep.RegionWith
import Derived.Outline
import Derived.WalkMore
namespace Go.Proofs.Ytekakngojhnleaa.Rd
set_option linter.unusedSimpArgs false
set_option linter.unusedVariables false
open Go.RowKit Go.Proofs.Ytekakngojhnleaa.PFrameDecodes Go.Proofs.YtekakngojhnleaaW.PrintWords Go.Proofs.YtekakngojhnleaaW.PrintLast Go.Proofs.YtekakngojhnleaaW.PrintMore

/-- A digit, as the walk spells it. -/
def dg (c : Int) : Int := IntKind.u64.wrap (Go.bits .andNot .u8 c 128)
def nx (i : Nat) (n : Int) : List Int → Int × Nat
  | [] => (0, 0)
  | c :: cs =>
    if i = 9 ∧ (dg c > 1 ∨ ¬ c < 128) then (0, 0)
    else if c < 128 ∧ dg c = 0 ∧ i > 0 then (0, 0)
    else if c < 128 then (Go.bits .or .u64 n (IntKind.u64.wrap (dg c * 2 ^ (7 * i))), i + 1)
    else nx (i + 1) (Go.bits .or .u64 n (IntKind.u64.wrap (dg c * 2 ^ (7 * i)))) cs

/-- A reader at block g of W: what is left of its bytes; these lie in memory that is elder than w0. -/
def IsRd (w0 W : World) (g : Nat) (xs : List Int) : Prop :=
  ∃ A c, W.heap[g]? = some (.cells #[.slice A xs.length c] 132 (0, 0)) ∧ w0.heap.size ≤ g ∧ xs.length ≤ c ∧ (Kd.int .u8).C w0 A xs.length xs
theorem IsRd.same {w0 W W' : World} {g : Nat} {xs : List Int} (h : IsRd w0 W g xs) (e : W'.heap[g]? = W.heap[g]?) : IsRd w0 W' g xs := by
  obtain ⟨A, c, hb, hg, hl, hr⟩ := h
  exact ⟨A, c, e.trans hb, hg, hl, hr⟩
theorem IsRd.lt {w0 W : World} {g : Nat} {xs : List Int} (h : IsRd w0 W g xs) : g < W.heap.size := by
  obtain ⟨A, c, hb, hg, hl, hr⟩ := h
  exact blk_lt hb
theorem IsRd.ge {w0 W : World} {g : Nat} {xs : List Int} (h : IsRd w0 W g xs) : w0.heap.size ≤ g := by
  obtain ⟨A, c, hb, hg, hl, hr⟩ := h
  exact hg

set_option maxHeartbeats 400000 in
theorem next_calls (g : Nat) (xs : List Int) (w0 w : World) (hI : IsRd w0 w g xs) (hB : Below w0.heap.size w0 w) (n : Int) (m : Nat) (hx : nx 0 0 xs = (n, m)) :
    Calls Try.prog 82 #[.pointer (some ⟨g, 0, none⟩)] w fun e w' => e = .returned (.tuple #[.int .u64 n, .int .i64 m]) ∧ w = w' := by
  obtain ⟨A, c, hb, hg, hcap, hr⟩ := hI
  have hcell : w.cell? ⟨g, 0, none⟩ = some (.slice A xs.length c) := (blk_cell hb 0).trans rfl
  have HX := Aside0.mk hx
  clear hx
  have HR := Aside0.mk (Kd.C_below hr hB)
  clear hr hb hB
  go_enter Try.func82, Try.ntmps82
  go_wp2
  go_step3
  go_wp2
  go_step3
  go_wp2
  go_loop [4, 14] (fun v i => ∃ (k : Nat) (n0 : Int), k ≤ 9 ∧ k ≤ xs.length ∧ i = .int .i64 k ∧ v = .int .u64 n0 ∧ Aside0 (nx k n0 (xs.drop k) = (n, m))) (fun _ i => xs.length - (intOf i).toNat)
  case atStart => exact ⟨0, 0, by omega, by omega, rfl, rfl, HX⟩
  case round =>
    obtain ⟨k, n0, hk9, hk, rfl, rfl, HN⟩ := hrel
    have hmax := Kd.C_max HR.out
    by_cases hlt : k < xs.length
    · obtain ⟨ad, rfl, hc⟩ := (Kd.reads_of_C (d := (0 : Int)) HR.out).2.2 (by omega)
      have hck := hc k hlt
      clear hc
      obtain ⟨b, hb⟩ : ∃ b, b = xs.getD k 0 := ⟨_, rfl⟩
      rw [← hb] at hck
      have hd : xs.drop k = b :: xs.drop (k + 1) := by rw [List.drop_eq_getElem_cons hlt, hb]; simp [hlt]
      have HN' := Aside0.mk (show nx k n0 (b   :: xs.drop (k + 1)) = (n, m) by rw [← hd]; exact HN.out)
      clear hb hd HN
      by_cases h9 : k = 9
      · have h9b : ((k : Int) == 9) = true := by simp; omega
        have hk0 : 0 < k := by omega
        have H9 := Aside0.mk h9
        clear h9
        by_cases hd1 : 1 < IntKind.u64.wrap (bits BinOp.andNot IntKind.u8 b 128)
        · go_wp2
          go_ret2
          exact ⟨by have h := HN'.out; obtain rfl := H9.out; simp [nx, dg, hd1] at h; obtain ⟨rfl, rfl⟩ := h; rfl, rfl⟩
        · by_cases hb : b < 128
          · by_cases hz : IntKind.u64.wrap (bits BinOp.andNot IntKind.u8 b 128) = 0
            · go_wp2
              go_ret2
              exact ⟨by have h := HN'.out; obtain rfl := H9.out; simp [nx, dg, Int.not_lt.2 hd1, hb, hz] at h; obtain ⟨rfl, rfl⟩ := h; rfl, rfl⟩
            · go_wp2
              go_ret2
              exact ⟨by have h := HN'.out; obtain rfl := H9.out; simp [nx, dg, Int.not_lt.2 hd1, hb, hz] at h; obtain ⟨rfl, rfl⟩ := h; rfl, rfl⟩
          · go_wp2
            go_ret2
            exact ⟨by have h := HN'.out; obtain rfl := H9.out; simp [nx, dg, hd1, hb] at h; obtain ⟨rfl, rfl⟩ := h; rfl, rfl⟩
      · have h9' : ¬ (k : Int) = 9 := by omega
        by_cases hb : b < 128
        · by_cases hz : IntKind.u64.wrap (bits BinOp.andNot IntKind.u8 b 128) = 0
          · by_cases hk0 : 0 < k
            · go_wp2
              go_ret2
              exact ⟨by have h := HN'.out; simp [nx, dg, hb, hz, h9, hk0] at h; obtain ⟨rfl, rfl⟩ := h; rfl, rfl⟩
            · go_wp2
              go_ret2
              exact ⟨by have h := HN'.out; obtain rfl : k = 0 := (by omega); simp [nx, dg, hb, hz, show IntKind.u64.wrap 0 = 0 from rfl] at h; obtain ⟨rfl, rfl⟩ := h; rfl, rfl⟩
          · go_wp2
            go_ret2
            exact ⟨by have h := HN'.out; simp [nx, dg, hb, hz, h9] at h; obtain ⟨rfl, rfl⟩ := h; rfl, rfl⟩
        · go_wp2
          go_round
          case rel => exact ⟨k + 1, _, by omega, by omega, by go_num, rfl, ⟨by rw [← HN'.out]; simp [nx, dg, hb, h9]⟩⟩
          case measure => simp [intOf]; omega
    · have hnil : xs.drop k = [] := by rw [List.drop_eq_nil_iff]; omega
      go_wp2
      go_ret2
      exact ⟨by have h := HN.out; rw [hnil] at h; simp [nx] at h; obtain ⟨rfl, rfl⟩ := h; rfl, rfl⟩

theorem nx_le (xs : List Int) : ∀ (i : Nat) (n : Int), (nx i n xs).2 ≤ i + xs.length := by
  induction xs with
  | nil => intro i n; simp [nx]
  | cons c cs ih =>
    intro i n
    unfold nx
    split
    · simp
    · split
      · simp
      · split
        · simp
        · have := ih (i + 1) (Go.bits .or .u64 n (IntKind.u64.wrap (dg c * 2 ^ (7 * i))))
          simp only [List.length_cons]
          omega

/-- Left. -/
theorem left_calls (g : Nat) (xs : List Int) (w0 w : World) (hI : IsRd w0 w g xs) :
    Calls Try.prog 62 #[.pointer (some ⟨g, 0, none⟩)] w fun e w' => e = .returned (.int .i64 (xs.length : Int)) ∧ w = w' := by
  obtain ⟨A, c, hb, hg, hcap, hr⟩ := hI
  have hcell : w.cell? ⟨g, 0, none⟩ = some (.slice A xs.length c) := (blk_cell hb 0).trans rfl
  clear hb hr
  go_enter Try.func62, Try.ntmps62
  go_wp2
  go_ret
  exact ⟨rfl, rfl⟩

/-- What a method of a reader does to the world: its own block, and new ones. -/
theorem drop_same {w0 : World} {A : Option Addr} {c m : Nat} {xs : List Int} (h : (Kd.int .u8).C w0 A xs.length xs) (hm : m ≤ xs.length) (hc : xs.length ≤ c) (e : c = m) : (Kd.int .u8).C w0 A (xs.drop m).length (xs.drop m) := by
  have := Kd.C_drop h hm hc
  rwa [if_pos e] at this
theorem drop_on {w0 : World} {A : Option Addr} {c m : Nat} {xs : List Int} (h : (Kd.int .u8).C w0 A xs.length xs) (hm : m ≤ xs.length) (hc : xs.length ≤ c) (e : ¬ c = m) : (Kd.int .u8).C w0 (A.map fun x => x.add m) (xs.drop m).length (xs.drop m) := by
  have := Kd.C_drop h hm hc
  rw [if_neg e] at this
  simpa [Kd.int, Kd.scalar] using this
theorem rd_store {w0 w : World} {g : Nat} {xs ys : List Int} {A A' : Option Addr} {c c' : Nat} (hb : w.heap[g]? = some (.cells #[.slice A xs.length c] 132 (0, 0))) (hg : w0.heap.size ≤ g) (hc : ys.length ≤ c') (hr : (Kd.int .u8).C w0 A' ys.length ys) {n : Nat} (hn : n = ys.length) :
    IsRd w0 (w.setCell ⟨g, 0, none⟩ (.slice A' n c')) g ys := by
  subst hn
  exact ⟨A', c', by simpa using blk_set hb 0 (.slice A' ys.length c'), hg, hc, hr⟩

set_option maxHeartbeats 400000 in
theorem rnumber_no (g : Nat) (xs : List Int) (w0 w : World) (hI : IsRd w0 w g xs) (hB : Below w0.heap.size w0 w) (most n : Int) (m : Nat) (hx : nx 0 0 xs = (n, m)) (h : m = 0 ∨ most < n) :
    Calls Try.prog 56 #[.pointer (some ⟨g, 0, none⟩), .int .u64 most] w fun e w' => e = .returned (.tuple #[.int .u64 0, .int .i64 13]) ∧ w = w' := by
  have HX := Aside0.mk hx
  clear hx
  go_enter Try.func56, Try.ntmps56
  go_wp2_with fail
  refine (next_calls g xs w0 _ hI hB n m HX.out).mono ?_
  rintro e w1 ⟨rfl, rfl⟩
  by_cases h0 : m = 0
  · have hb0 : ((m : Int) == 0) = true := by simp; omega
    go_wp2
    go_ret2
    exact ⟨rfl, rfl⟩
  · have hb0 : ((m : Int) == 0) = false := by simp; omega
    have h1 : most < n := by omega
    go_wp2
    go_ret2
    exact ⟨rfl, rfl⟩

set_option maxHeartbeats 400000 in
theorem rnumber_yes (g : Nat) (xs : List Int) (w0 w : World) (hI : IsRd w0 w g xs) (hB : Below w0.heap.size w0 w) (most n : Int) (m : Nat) (hx : nx 0 0 xs = (n, m)) (h0 : 0 < m) (h1 : n ≤ most) :
    Calls Try.prog 56 #[.pointer (some ⟨g, 0, none⟩), .int .u64 most] w fun e w' => e = .returned (.tuple #[.int .u64 n, .int .i64 0]) ∧ IsRd w0 w' g (xs.drop m) ∧ Below w0.heap.size w0 w' ∧ KeepBut w w' g none := by
  have hm : m ≤ xs.length := by have := nx_le xs 0 0; rw [hx] at this; simpa using this
  have HX := Aside0.mk hx
  have HI := Aside0.mk hI
  obtain ⟨A, c, hb, hg, hcap, hr⟩ := hI
  have hcell : w.cell? ⟨g, 0, none⟩ = some (.slice A xs.length c) := (blk_cell hb 0).trans rfl
  have hfr : w.frozen? ⟨g, 0, none⟩ = false := blk_frozen hb 0
  have HBl := Aside0.mk hb
  have HR := Aside0.mk hr
  have hmax := Kd.C_max hr
  have HB := Aside0.mk hB
  clear hx hr hb hB
  go_enter Try.func56, Try.ntmps56
  go_wp2_with fail
  refine (next_calls g xs w0 _ HI.out HB.out n m HX.out).mono ?_
  rintro e w1 ⟨rfl, rfl⟩
  have hb0 : ((m : Int) == 0) = false := by simp; omega
  have hng : ¬ most < n := by omega
  go_wp2
  · have hcm : c = m := by assumption
    go_ret2
    exact ⟨rfl, rd_store HBl.out hg (by simp; omega) (drop_same HR.out hm hcap hcm) (by simp), below_set HB.out hg, (KeepBut.refl _ _ _).set_ _ _⟩
  · have hcm : ¬ c = m := by assumption
    go_ret2
    exact ⟨rfl, rd_store HBl.out hg (by simp; omega) (drop_on HR.out hm hcap hcm) (by simp), below_set HB.out hg, (KeepBut.refl _ _ _).set_ _ _⟩
end Go.Proofs.Ytekakngojhnleaa.Rd
