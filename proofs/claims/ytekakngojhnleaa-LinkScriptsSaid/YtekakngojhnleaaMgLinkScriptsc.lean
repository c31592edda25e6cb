/- Parts of the proof of LinkScripts, merged: each is proved for all its inputs. -/
import Derived.Test.YtekakngojhnleaaMgLinkScriptsb
import Derived.Laws.BitsAllLaws
import Derived.Laws.Bits64
import Derived.Test.YtekakngojhnleaaPFrameDecodesx0
import Derived.Deep.RegionWith
import Derived.Outline
import Derived.Lib.SliceRun
import Derived.WalkMore
/- The codec's writers and the document's give the same bytes: plain laws on numbers and lists. -/
namespace Go.Proofs.Ytekakngojhnleaa.Plain
open Go.RowKit Go.Proofs.Ytekakngojhnleaa.Fns Go.Proofs.YtekakngojhnleaaW.PrintWords Go.Proofs.YtekakngojhnleaaW.PrintLast

theorem u64_bounds {x : Int} (h : (Lit.int .u64 x).wf = true) : 0 ≤ x ∧ x < 18446744073709551616 := by
  simp only [Lit.wf, Bool.and_eq_true, IntKind.min, IntKind.max, IntKind.bits, IntKind.signed] at h
  simp at h
  omega

theorem i64_bounds {x : Int} (h : (Lit.int .i64 x).wf = true) : -9223372036854775808 ≤ x ∧ x < 9223372036854775808 := by
  simp only [Lit.wf, Bool.and_eq_true, IntKind.min, IntKind.max, IntKind.bits, IntKind.signed] at h
  simp at h
  omega

theorem or_digit (x : Int) : Go.bits .or .u8 (x % 256) 128 = x % 128 + 128 := by
  rw [u8_or _ _ (by omega) (by omega) (by omega) (by omega)]
  obtain ⟨n, hn⟩ : ∃ n : Nat, x % 256 = n := ⟨(x % 256).toNat, by omega⟩
  rw [hn]
  have hlt : n < 256 := by omega
  have key : ∀ n : Nat, n < 256 → n ||| 128 = n % 128 + 128 := by decide +kernel
  have h128 : (128 : Int).toNat = 128 := rfl
  rw [Int.toNat_natCast, h128, key n hlt]
  omega

theorem ref_digit (x : Int) (h : 0 ≤ x) : (IntKind.u64.wrap ((Int.tmod x 128) + 128)) % 256 = x % 128 + 128 := by
  rw [IntKind.wrap_u64, Int.tmod_eq_emod_of_nonneg h]
  omega

theorem ref_next (x : Int) (h : 0 ≤ x) (hx : x < 18446744073709551616) : IntKind.u64.wrap (Int.tdiv x 128) = x / 128 := by
  rw [IntKind.wrap_u64, Int.tdiv_eq_ediv_of_nonneg h]
  omega

theorem number_eq (k : Nat) : ∀ (x : Int) (acc : List Int), 0 ≤ x → x < 18446744073709551616 → windbreakref09_Number.l0 k x acc = codec_Number.l0 k x acc := by
  induction k with
  | zero => intros; rfl
  | succ k ih =>
    intro x acc h0 h1
    simp only [windbreakref09_Number.l0, codec_Number.l0]
    rw [ref_next x h0 h1, ref_digit x h0, or_digit, ih _ _ (by omega) (by omega)]

theorem number_some (k : Nat) : ∀ (x : Int) (acc : List Int), x < 128 ^ (k + 1) → acc.length + k < 140737488355328 → ∃ r, codec_Number.l0 (k + 1) x acc = some r ∧ r.length ≤ acc.length + k + 1 := by
  induction k with
  | zero =>
    intro x acc hx ha
    rw [codec_Number.l0, if_neg (by omega), if_pos (by omega)]
    exact ⟨_, rfl, by simp⟩
  | succ k ih =>
    intro x acc hx ha
    rw [codec_Number.l0]
    by_cases h : x ≥ 128
    · rw [if_pos h, if_pos (by omega)]
      have hp : (128 : Int) ^ (k + 1 + 1) = 128 ^ (k + 1) * 128 := by rw [Int.pow_succ]
      obtain ⟨r, hr, hl⟩ := ih (x / 128) (acc ++ [Go.bits .or .u8 (x % 256) 128]) (by omega) (by simp; omega)
      exact ⟨r, hr, by simp at hl; omega⟩
    · rw [if_neg h, if_pos (by omega)]
      exact ⟨_, rfl, by simp⟩

theorem number_all (x : Int) (h : 0 ≤ x) (hx : x < 18446744073709551616) : ∃ r, codec_Number.f 10 x = some r ∧ windbreakref09_Number.f 10 x = some r ∧ r.length ≤ 10 := by
  obtain ⟨r, hr, hl⟩ := number_some 9 x [] (by omega) (by simp)
  exact ⟨r, hr, by unfold windbreakref09_Number.f; rw [number_eq _ _ _ h hx]; exact hr, by simpa using hl⟩

theorem bits_range (a b : Int) : 0 ≤ Go.bits .xor .u64 a b ∧ Go.bits .xor .u64 a b < 18446744073709551616 := by
  have e : Go.bits .xor .u64 a b = IntKind.u64.wrap ((BitVec.ofInt 64 a ^^^ BitVec.ofInt 64 b).toNat : Int) := rfl
  rw [e, IntKind.wrap_u64]
  omega


end Go.Proofs.Ytekakngojhnleaa.Plain
namespace Go.Proofs.Ytekakngojhnleaa.Rd
open Go.RowKit Go.Proofs.Ytekakngojhnleaa.PFrameDecodes Go.Proofs.YtekakngojhnleaaW.PrintWords Go.Proofs.YtekakngojhnleaaW.PrintLast Go.Proofs.YtekakngojhnleaaW.PrintMore
set_option linter.unusedSimpArgs false
set_option linter.unusedVariables false

theorem R_empty {α : Type} (d : Kd α) (e : Nat) (w : World) (base : Nat) (hb : base ≤ w.heap.size) : d.R e (w.alloc (.cells #[] e)) base (fun _ => True) (.slice (some ⟨w.heap.size, 0, none⟩) 0 0) ([] : List α) := by
  refine ⟨fun _ _ => trivial, [], ?_, Reps.none _ _⟩
  have h := World.ownsRow_lit (base := base) (e := e) (size := d.sz) w #[] 0 hb (by simp [maxLen]) (by simp)
  simpa using h

set_option maxHeartbeats 400000 in
theorem clone_calls (A : Option Addr) (c : Nat) (xs : List Int) (w : World) (hr : Kd.C (Kd.int .u8) w A xs.length xs) (hl : xs.length ≤ 140737488355328) :
    Calls Try.prog 51 #[.slice A xs.length c] w fun e w' => ∃ v, e = .returned v ∧ (Kd.int .u8).R 5 w' w.heap.size (fun _ => True) v xs ∧ Below w.heap.size w w' := by
  have q30 : ∀ (w : World) (a : Option Addr) (n c n' c' : Nat), (binOp .eql 30 (.slice a n c) (.slice none n' c')).run Try.prog w = .ok (.bool a.isNone) w := fun w a n c n' c' => Lib.run_eql_slice_nil w _ _ a n c n' c' Try.underlying30
  have HR := Aside0.mk hr
  clear hr
  rcases A with _ | ad
  · have hnil : xs = [] := by
      rcases Nat.eq_zero_or_pos xs.length with h | h
      · exact List.eq_nil_of_length_eq_zero h
      · obtain ⟨_, h, _⟩ := HR.out.2.2 h
        cases h
    have HN := Aside0.mk hnil
    clear hnil
    go_enter Try.func51, Try.ntmps51
    go_wp2
    go_ret
    exact ⟨_, rfl, by rw [HN.out]; exact Kd.R_nil _ _ _ _ _, Below.refl _ _⟩
  · go_enter Try.func51, Try.ntmps51
    have HE := Aside0.mk (R_empty (Kd.int .u8) 5 w w.heap.size (Nat.le_refl _))
    go_wp2_with (at_builtin; go_loud (refine Kd.R_append_rows (Kd.int .u8) (w0 := w) w.heap.size rfl (.tmp 5) (.tmp 6) 30 5 (.int .u8 0) 1 rfl Try.underlying30 PFrameDecodes.info5 rfl (by decide) (by omega) _ [] xs _ _ _ (fun _ => True) (fun _ => False) rfl rfl HE.out (Kd.C_alloc HR.out _) (fun _ _ h => h) (fun _ h => h.elim) (fun _ _ => trivial) (below_alloc (Below.refl _ _) _) (by simp) (by simp; omega) ?_); intro v1 w1 ho1 hb1 _ _)
    go_ret
    exact ⟨_, rfl, by simpa using ho1, hb1⟩
end Go.Proofs.Ytekakngojhnleaa.Rd
namespace Go.Proofs.Ytekakngojhnleaa.Rd
set_option linter.unusedSimpArgs false
set_option linter.unusedVariables false
open Go.RowKit Go.Proofs.Ytekakngojhnleaa.PFrameDecodes Go.Proofs.YtekakngojhnleaaW.PrintWords Go.Proofs.YtekakngojhnleaaW.PrintLast Go.Proofs.YtekakngojhnleaaW.PrintMore

/-- A digit, as the walk spells it. -/
def dg (c : Int) : Int := IntKind.u64.wrap (Go.bits .andNot .u8 c 128)
def nx (i : Nat) (n : Int) : List Int → Int × Nat
  | [] => (0, 0)
  | c :: cs =>
    if i = 9 ∧ (dg c > 1 ∨ ¬ c < 128) then (0, 0)
    else if c < 128 ∧ dg c = 0 ∧ i > 0 then (0, 0)
    else if c < 128 then (Go.bits .or .u64 n (IntKind.u64.wrap (dg c * 2 ^ (7 * i))), i + 1)
    else nx (i + 1) (Go.bits .or .u64 n (IntKind.u64.wrap (dg c * 2 ^ (7 * i)))) cs

/-- A reader at block g of W: what is left of its bytes; these lie in memory that is elder than w0. -/
def IsRd (w0 W : World) (g : Nat) (xs : List Int) : Prop :=
  ∃ A c, W.heap[g]? = some (.cells #[.slice A xs.length c] 132 (0, 0)) ∧ w0.heap.size ≤ g ∧ xs.length ≤ c ∧ (Kd.int .u8).C w0 A xs.length xs
theorem IsRd.same {w0 W W' : World} {g : Nat} {xs : List Int} (h : IsRd w0 W g xs) (e : W'.heap[g]? = W.heap[g]?) : IsRd w0 W' g xs := by
  obtain ⟨A, c, hb, hg, hl, hr⟩ := h
  exact ⟨A, c, e.trans hb, hg, hl, hr⟩
theorem IsRd.lt {w0 W : World} {g : Nat} {xs : List Int} (h : IsRd w0 W g xs) : g < W.heap.size := by
  obtain ⟨A, c, hb, hg, hl, hr⟩ := h
  exact blk_lt hb
theorem IsRd.ge {w0 W : World} {g : Nat} {xs : List Int} (h : IsRd w0 W g xs) : w0.heap.size ≤ g := by
  obtain ⟨A, c, hb, hg, hl, hr⟩ := h
  exact hg

set_option maxHeartbeats 400000 in
theorem next_calls (g : Nat) (xs : List Int) (w0 w : World) (hI : IsRd w0 w g xs) (hB : Below w0.heap.size w0 w) (n : Int) (m : Nat) (hx : nx 0 0 xs = (n, m)) :
    Calls Try.prog 82 #[.pointer (some ⟨g, 0, none⟩)] w fun e w' => e = .returned (.tuple #[.int .u64 n, .int .i64 m]) ∧ w = w' := by
  obtain ⟨A, c, hb, hg, hcap, hr⟩ := hI
  have hcell : w.cell? ⟨g, 0, none⟩ = some (.slice A xs.length c) := (blk_cell hb 0).trans rfl
  have HX := Aside0.mk hx
  clear hx
  have HR := Aside0.mk (Kd.C_below hr hB)
  clear hr hb hB
  go_enter Try.func82, Try.ntmps82
  go_wp2
  go_step3
  go_wp2
  go_step3
  go_wp2
  go_loop [4, 14] (fun v i => ∃ (k : Nat) (n0 : Int), k ≤ 9 ∧ k ≤ xs.length ∧ i = .int .i64 k ∧ v = .int .u64 n0 ∧ Aside0 (nx k n0 (xs.drop k) = (n, m))) (fun _ i => xs.length - (intOf i).toNat)
  case atStart => exact ⟨0, 0, by omega, by omega, rfl, rfl, HX⟩
  case round =>
    obtain ⟨k, n0, hk9, hk, rfl, rfl, HN⟩ := hrel
    have hmax := Kd.C_max HR.out
    by_cases hlt : k < xs.length
    · obtain ⟨ad, rfl, hc⟩ := (Kd.reads_of_C (d := (0 : Int)) HR.out).2.2 (by omega)
      have hck := hc k hlt
      clear hc
      obtain ⟨b, hb⟩ : ∃ b, b = xs.getD k 0 := ⟨_, rfl⟩
      rw [← hb] at hck
      have hd : xs.drop k = b :: xs.drop (k + 1) := by rw [List.drop_eq_getElem_cons hlt, hb]; simp [hlt]
      have HN' := Aside0.mk (show nx k n0 (b   :: xs.drop (k + 1)) = (n, m) by rw [← hd]; exact HN.out)
      clear hb hd HN
      by_cases h9 : k = 9
      · have h9b : ((k : Int) == 9) = true := by simp; omega
        have hk0 : 0 < k := by omega
        have H9 := Aside0.mk h9
        clear h9
        by_cases hd1 : 1 < IntKind.u64.wrap (bits BinOp.andNot IntKind.u8 b 128)
        · go_wp2
          go_ret2
          exact ⟨by have h := HN'.out; obtain rfl := H9.out; simp [nx, dg, hd1] at h; obtain ⟨rfl, rfl⟩ := h; rfl, rfl⟩
        · by_cases hb : b < 128
          · by_cases hz : IntKind.u64.wrap (bits BinOp.andNot IntKind.u8 b 128) = 0
            · go_wp2
              go_ret2
              exact ⟨by have h := HN'.out; obtain rfl := H9.out; simp [nx, dg, Int.not_lt.2 hd1, hb, hz] at h; obtain ⟨rfl, rfl⟩ := h; rfl, rfl⟩
            · go_wp2
              go_ret2
              exact ⟨by have h := HN'.out; obtain rfl := H9.out; simp [nx, dg, Int.not_lt.2 hd1, hb, hz] at h; obtain ⟨rfl, rfl⟩ := h; rfl, rfl⟩
          · go_wp2
            go_ret2
            exact ⟨by have h := HN'.out; obtain rfl := H9.out; simp [nx, dg, hd1, hb] at h; obtain ⟨rfl, rfl⟩ := h; rfl, rfl⟩
      · have h9' : ¬ (k : Int) = 9 := by omega
        by_cases hb : b < 128
        · by_cases hz : IntKind.u64.wrap (bits BinOp.andNot IntKind.u8 b 128) = 0
          · by_cases hk0 : 0 < k
            · go_wp2
              go_ret2
              exact ⟨by have h := HN'.out; simp [nx, dg, hb, hz, h9, hk0] at h; obtain ⟨rfl, rfl⟩ := h; rfl, rfl⟩
            · go_wp2
              go_ret2
              exact ⟨by have h := HN'.out; obtain rfl : k = 0 := (by omega); simp [nx, dg, hb, hz, show IntKind.u64.wrap 0 = 0 from rfl] at h; obtain ⟨rfl, rfl⟩ := h; rfl, rfl⟩
          · go_wp2
            go_ret2
            exact ⟨by have h := HN'.out; simp [nx, dg, hb, hz, h9] at h; obtain ⟨rfl, rfl⟩ := h; rfl, rfl⟩
        · go_wp2
          go_round
          case rel => exact ⟨k + 1, _, by omega, by omega, by go_num, rfl, ⟨by rw [← HN'.out]; simp [nx, dg, hb, h9]⟩⟩
          case measure => simp [intOf]; omega
    · have hnil : xs.drop k = [] := by rw [List.drop_eq_nil_iff]; omega
      go_wp2
      go_ret2
      exact ⟨by have h := HN.out; rw [hnil] at h; simp [nx] at h; obtain ⟨rfl, rfl⟩ := h; rfl, rfl⟩

theorem nx_le (xs : List Int) : ∀ (i : Nat) (n : Int), (nx i n xs).2 ≤ i + xs.length := by
  induction xs with
  | nil => intro i n; simp [nx]
  | cons c cs ih =>
    intro i n
    unfold nx
    split
    · simp
    · split
      · simp
      · split
        · simp
        · have := ih (i + 1) (Go.bits .or .u64 n (IntKind.u64.wrap (dg c * 2 ^ (7 * i))))
          simp only [List.length_cons]
          omega

/-- Left. -/
theorem left_calls (g : Nat) (xs : List Int) (w0 w : World) (hI : IsRd w0 w g xs) :
    Calls Try.prog 62 #[.pointer (some ⟨g, 0, none⟩)] w fun e w' => e = .returned (.int .i64 (xs.length : Int)) ∧ w = w' := by
  obtain ⟨A, c, hb, hg, hcap, hr⟩ := hI
  have hcell : w.cell? ⟨g, 0, none⟩ = some (.slice A xs.length c) := (blk_cell hb 0).trans rfl
  clear hb hr
  go_enter Try.func62, Try.ntmps62
  go_wp2
  go_ret
  exact ⟨rfl, rfl⟩

/-- What a method of a reader does to the world: its own block, and new ones. -/
theorem drop_same {w0 : World} {A : Option Addr} {c m : Nat} {xs : List Int} (h : (Kd.int .u8).C w0 A xs.length xs) (hm : m ≤ xs.length) (hc : xs.length ≤ c) (e : c = m) : (Kd.int .u8).C w0 A (xs.drop m).length (xs.drop m) := by
  have := Kd.C_drop h hm hc
  rwa [if_pos e] at this
theorem drop_on {w0 : World} {A : Option Addr} {c m : Nat} {xs : List Int} (h : (Kd.int .u8).C w0 A xs.length xs) (hm : m ≤ xs.length) (hc : xs.length ≤ c) (e : ¬ c = m) : (Kd.int .u8).C w0 (A.map fun x => x.add m) (xs.drop m).length (xs.drop m) := by
  have := Kd.C_drop h hm hc
  rw [if_neg e] at this
  simpa [Kd.int, Kd.scalar] using this
theorem rd_store {w0 w : World} {g : Nat} {xs ys : List Int} {A A' : Option Addr} {c c' : Nat} (hb : w.heap[g]? = some (.cells #[.slice A xs.length c] 132 (0, 0))) (hg : w0.heap.size ≤ g) (hc : ys.length ≤ c') (hr : (Kd.int .u8).C w0 A' ys.length ys) {n : Nat} (hn : n = ys.length) :
    IsRd w0 (w.setCell ⟨g, 0, none⟩ (.slice A' n c')) g ys := by
  subst hn
  exact ⟨A', c', by simpa using blk_set hb 0 (.slice A' ys.length c'), hg, hc, hr⟩

set_option maxHeartbeats 400000 in
theorem rnumber_no (g : Nat) (xs : List Int) (w0 w : World) (hI : IsRd w0 w g xs) (hB : Below w0.heap.size w0 w) (most n : Int) (m : Nat) (hx : nx 0 0 xs = (n, m)) (h : m = 0 ∨ most < n) :
    Calls Try.prog 56 #[.pointer (some ⟨g, 0, none⟩), .int .u64 most] w fun e w' => e = .returned (.tuple #[.int .u64 0, .int .i64 13]) ∧ w = w' := by
  have HX := Aside0.mk hx
  clear hx
  go_enter Try.func56, Try.ntmps56
  go_wp2_with fail
  refine (next_calls g xs w0 _ hI hB n m HX.out).mono ?_
  rintro e w1 ⟨rfl, rfl⟩
  by_cases h0 : m = 0
  · have hb0 : ((m : Int) == 0) = true := by simp; omega
    go_wp2
    go_ret2
    exact ⟨rfl, rfl⟩
  · have hb0 : ((m : Int) == 0) = false := by simp; omega
    have h1 : most < n := by omega
    go_wp2
    go_ret2
    exact ⟨rfl, rfl⟩

set_option maxHeartbeats 400000 in
theorem rnumber_yes (g : Nat) (xs : List Int) (w0 w : World) (hI : IsRd w0 w g xs) (hB : Below w0.heap.size w0 w) (most n : Int) (m : Nat) (hx : nx 0 0 xs = (n, m)) (h0 : 0 < m) (h1 : n ≤ most) :
    Calls Try.prog 56 #[.pointer (some ⟨g, 0, none⟩), .int .u64 most] w fun e w' => e = .returned (.tuple #[.int .u64 n, .int .i64 0]) ∧ IsRd w0 w' g (xs.drop m) ∧ Below w0.heap.size w0 w' ∧ KeepBut w w' g none := by
  have hm : m ≤ xs.length := by have := nx_le xs 0 0; rw [hx] at this; simpa using this
  have HX := Aside0.mk hx
  have HI := Aside0.mk hI
  obtain ⟨A, c, hb, hg, hcap, hr⟩ := hI
  have hcell : w.cell? ⟨g, 0, none⟩ = some (.slice A xs.length c) := (blk_cell hb 0).trans rfl
  have hfr : w.frozen? ⟨g, 0, none⟩ = false := blk_frozen hb 0
  have HBl := Aside0.mk hb
  have HR := Aside0.mk hr
  have hmax := Kd.C_max hr
  have HB := Aside0.mk hB
  clear hx hr hb hB
  go_enter Try.func56, Try.ntmps56
  go_wp2_with fail
  refine (next_calls g xs w0 _ HI.out HB.out n m HX.out).mono ?_
  rintro e w1 ⟨rfl, rfl⟩
  have hb0 : ((m : Int) == 0) = false := by simp; omega
  have hng : ¬ most < n := by omega
  go_wp2
  · have hcm : c = m := by assumption
    go_ret2
    exact ⟨rfl, rd_store HBl.out hg (by simp; omega) (drop_same HR.out hm hcap hcm) (by simp), below_set HB.out hg, (KeepBut.refl _ _ _).set_ _ _⟩
  · have hcm : ¬ c = m := by assumption
    go_ret2
    exact ⟨rfl, rd_store HBl.out hg (by simp; omega) (drop_on HR.out hm hcap hcm) (by simp), below_set HB.out hg, (KeepBut.refl _ _ _).set_ _ _⟩
end Go.Proofs.Ytekakngojhnleaa.Rd
/- The reader's Number, Int and Bytes: what each tells, and what is left. -/
namespace Go.Proofs.Ytekakngojhnleaa.Rd
set_option linter.unusedSimpArgs false
set_option linter.unusedVariables false
open Go.RowKit Go.Proofs.Ytekakngojhnleaa.PFrameDecodes Go.Proofs.YtekakngojhnleaaW.PrintWords Go.Proofs.YtekakngojhnleaaW.PrintLast Go.Proofs.YtekakngojhnleaaW.PrintMore

def rNum (most : Int) (xs : List Int) : Int × Int × List Int :=
  if (nx 0 0 xs).2 = 0 ∨ most < (nx 0 0 xs).1 then (0, 13, xs) else ((nx 0 0 xs).1, 0, xs.drop (nx 0 0 xs).2)
def szI (n : Int) : Int := IntKind.u64.wrap (n / 2 + Go.bits .and .u64 n 1)
def valI (n : Int) : Int := Go.bits .xor .i64 (wrap64 (n / 2)) (wrap64 (-wrap64 (Go.bits .and .u64 n 1)))
def rInt (most : Int) (xs : List Int) : Int × Int × List Int :=
  if (nx 0 0 xs).2 = 0 ∨ most < 0 ∨ IntKind.u64.wrap most < szI (nx 0 0 xs).1 then (0, 13, xs) else (valI (nx 0 0 xs).1, 0, xs.drop (nx 0 0 xs).2)
def rByt (most : Int) (xs : List Int) : List Int × Int × List Int :=
  if (nx 0 0 xs).2 = 0 ∨ most < 0 ∨ most < (nx 0 0 xs).1 ∨ (xs.length : Int) - (nx 0 0 xs).2 < (nx 0 0 xs).1 then ([], 13, xs)
  else ((xs.drop (nx 0 0 xs).2).take (nx 0 0 xs).1.toNat, 0, xs.drop ((nx 0 0 xs).2 + (nx 0 0 xs).1.toNat))

theorem rnumber_calls (g : Nat) (xs : List Int) (w0 w : World) (hI : IsRd w0 w g xs) (hB : Below w0.heap.size w0 w) (most : Int) (x e : Int) (ys : List Int) (h : rNum most xs = (x, e, ys)) :
    Calls Try.prog 56 #[.pointer (some ⟨g, 0, none⟩), .int .u64 most] w fun e' w' => e' = .returned (.tuple #[.int .u64 x, .int .i64 e]) ∧ IsRd w0 w' g ys ∧ Below w0.heap.size w0 w' ∧ KeepBut w w' g none := by
  unfold rNum at h
  split at h
  · rename_i hc
    injection h with h1 h2
    injection h2 with h2 h3
    subst h1 h2 h3
    refine (rnumber_no g xs w0 w hI hB most _ _ rfl hc).mono ?_
    rintro e w1 ⟨rfl, rfl⟩
    exact ⟨rfl, hI, hB, KeepBut.refl _ _ _⟩
  · rename_i hc
    injection h with h1 h2
    injection h2 with h2 h3
    subst h1 h2 h3
    exact rnumber_yes g xs w0 w hI hB most _ _ rfl (by omega) (by omega)

theorem or_u64_range (a b : Int) : 0 ≤ Go.bits .or .u64 a b ∧ Go.bits .or .u64 a b < 18446744073709551616 := by
  have e : Go.bits .or .u64 a b = IntKind.u64.wrap ((BitVec.ofInt 64 a ||| BitVec.ofInt 64 b).toNat : Int) := rfl
  rw [e, IntKind.wrap_u64]
  omega
theorem nx_range (xs : List Int) : ∀ (i : Nat) (n : Int), 0 ≤ (nx i n xs).1 ∧ (nx i n xs).1 < 18446744073709551616 := by
  induction xs with
  | nil => intro i n; simp [nx]
  | cons c cs ih =>
    intro i n
    unfold nx
    split
    · simp
    · split
      · simp
      · split
        · exact or_u64_range _ _
        · exact ih _ _

theorem clone_calls' (A : Option Addr) (c : Nat) (xs : List Int) (n : Nat) (w : World) (hr : Kd.C (Kd.int .u8) w A xs.length xs) (hn : n = xs.length) (hl : xs.length ≤ 140737488355328) :
    Calls Try.prog 51 #[.slice A n c] w fun e w' => ∃ v, e = .returned v ∧ (Kd.int .u8).R 5 w' w.heap.size (fun _ => True) v xs ∧ Below w.heap.size w w' := by
  subst hn
  exact clone_calls A c xs w hr hl
theorem bytes_end {w0 w w1 : World} {g m n c : Nat} {xs ys : List Int} {A A' : Option Addr} {c' : Nat} {v : Value} {i : Int} (hb : w.heap[g]? = some (.cells #[.slice A xs.length c] 132 (0, 0))) (hg : w0.heap.size ≤ g) (h2 : m + n ≤ xs.length) (hB : Below w0.heap.size w0 w) (hB1 : Below w.heap.size w w1)
    (ho : (Kd.int .u8).R 5 w1 w.heap.size (fun _ => True) v ys) (hl2 : (xs.drop m).take n = ys) (hr : (Kd.int .u8).C w0 A' (xs.drop (m + n)).length (xs.drop (m + n))) (hc : xs.length - (m + n) ≤ c') :
    ∃ v', Ending.returned (.tuple #[v, .int .i64 i]) = .returned (.tuple #[v', .int .i64 i]) ∧ (Kd.int .u8).R 5 (w1.setCell ⟨g, 0, none⟩ (.slice A' (xs.length - (m + n)) c')) w.heap.size (fun _ => True) v' ((xs.drop m).take n) ∧
      IsRd w0 (w1.setCell ⟨g, 0, none⟩ (.slice A' (xs.length - (m + n)) c')) g (xs.drop (m + n)) ∧ Below w0.heap.size w0 (w1.setCell ⟨g, 0, none⟩ (.slice A' (xs.length - (m + n)) c')) ∧ KeepBut w (w1.setCell ⟨g, 0, none⟩ (.slice A' (xs.length - (m + n)) c')) g none := by
  subst hl2
  have hb1 : w1.heap[g]? = some (.cells #[.slice A xs.length c] 132 (0, 0)) := (hB1.block g (blk_lt hb)).trans hb
  refine ⟨v, rfl, Kd.R_set ho hb1 ?_ 0 _, rd_store hb1 hg (by simp; omega) hr (by simp), below_set (hB.trans (hB1.mono hB.size)) hg, (KeepBut.of_below hB1 g none).set_ _ _⟩
  intro q hq
  simp [Kd.int, Kd.scalar] at hq
  subst hq
  decide
theorem mid_same {w0 : World} {A : Option Addr} {c lo hi : Nat} {xs : List Int} (h : (Kd.int .u8).C w0 A xs.length xs) (h1 : lo ≤ hi) (h2 : hi ≤ xs.length) (hc : xs.length ≤ c) (e : c = lo) : (Kd.int .u8).C w0 A ((xs.take hi).drop lo).length ((xs.take hi).drop lo) := by
  have := Kd.C_mid h h1 h2 hc
  rwa [if_pos e] at this
theorem mid_on {w0 : World} {A : Option Addr} {c lo hi : Nat} {xs : List Int} (h : (Kd.int .u8).C w0 A xs.length xs) (h1 : lo ≤ hi) (h2 : hi ≤ xs.length) (hc : xs.length ≤ c) (e : ¬ c = lo) : (Kd.int .u8).C w0 (A.map fun x => x.add lo) ((xs.take hi).drop lo).length ((xs.take hi).drop lo) := by
  have := Kd.C_mid h h1 h2 hc
  rw [if_neg e] at this
  simpa [Kd.int, Kd.scalar] using this

set_option maxHeartbeats 800000 in
theorem rbytes_calls (g : Nat) (xs : List Int) (w0 w : World) (hI : IsRd w0 w g xs) (hB : Below w0.heap.size w0 w) (most : Int) (hl : xs.length ≤ 140737488355328) (hmost : most < 9223372036854775808) (x : List Int) (e : Int) (ys : List Int) (h : rByt most xs = (x, e, ys)) :
    Calls Try.prog 58 #[.pointer (some ⟨g, 0, none⟩), .int .i64 most] w fun e' w' => ∃ v, e' = .returned (.tuple #[v, .int .i64 e]) ∧ (Kd.int .u8).R 5 w' w.heap.size (fun _ => True) v x ∧ IsRd w0 w' g ys ∧ Below w0.heap.size w0 w' ∧ KeepBut w w' g none := by
  obtain ⟨n', m, hx⟩ : ∃ n m, nx 0 0 xs = (n, m) := ⟨_, _, rfl⟩
  have hm : m ≤ xs.length := by have := nx_le xs 0 0; rw [hx] at this; simpa using this
  have hr0 := nx_range xs 0 0
  rw [hx] at hr0
  obtain ⟨n, rfl⟩ := Int.eq_ofNat_of_zero_le hr0.1
  have hn64 : (n : Int) < 18446744073709551616 := hr0.2
  clear hr0
  unfold rByt at h
  rw [hx] at h
  simp only [Int.toNat_natCast] at h
  have H := Aside0.mk h
  have HX := Aside0.mk hx
  have HI := Aside0.mk hI
  obtain ⟨A, c, hb, hg, hcap, hr⟩ := hI
  have hcell : w.cell? ⟨g, 0, none⟩ = some (.slice A xs.length c) := (blk_cell hb 0).trans rfl
  have hfr : w.frozen? ⟨g, 0, none⟩ = false := blk_frozen hb 0
  have HBl := Aside0.mk hb
  have HR := Aside0.mk hr
  have hmax := Kd.C_max hr
  have HB := Aside0.mk hB
  clear h hx hr hb hB
  go_enter Try.func58, Try.ntmps58
  go_wp2_with fail
  refine (next_calls g xs w0 _ HI.out HB.out n m HX.out).mono ?_
  rintro e w1 ⟨rfl, rfl⟩
  by_cases h0 : m = 0
  · have hb0 : ((m : Int) == 0) = true := by simp; omega
    go_wp2
    go_ret2
    have h := H.out
    rw [if_pos (.inl h0)] at h
    injection h with h1 h2
    injection h2 with h2 h3
    subst h1 h2 h3
    exact ⟨_, rfl, Kd.R_nil _ _ _ _ _, HI.out, HB.out, KeepBut.refl _ _ _⟩
  · have hb0 : ((m : Int) == 0) = false := by simp; omega
    have h0' : 0 < m := by omega
    clear h0
    by_cases hn : most < 0
    · have h := H.out
      rw [if_pos (.inr (.inl hn))] at h
      injection h with h1 h2
      injection h2 with h2 h3
      subst h1 h2 h3
      go_wp2
      go_ret2
      exact ⟨_, rfl, Kd.R_nil _ _ _ _ _, HI.out, HB.out, KeepBut.refl _ _ _⟩
    · obtain ⟨M, rfl⟩ := Int.eq_ofNat_of_zero_le (show 0 ≤ most by omega)
      have HM := Aside0.mk hmost
      have HN := Aside0.mk hn64
      clear hmost hn64
      have hw : IntKind.u64.wrap (M : Int) = M := by rw [IntKind.wrap_u64]; have := HM.out; omega
      by_cases h1 : (n : Int) ≤ IntKind.u64.wrap (M : Int)
      · by_cases h2 : (n : Int) ≤ (xs.length : Int) - (m : Int)
        · have h := H.out
          rw [if_neg (by omega)] at h
          injection h with h3 h4
          injection h4 with h4 h5
          subst h3 h4 h5
          have hl1 : n = ((xs.take (m + n)).drop m).length := by simp; omega
          have hl2 : (xs.drop m).take n = (xs.take (m + n)).drop m := by rw [List.drop_take]; congr 1; omega
          have HL1 := Aside0.mk hl1
          have HL2 := Aside0.mk hl2
          have HH2 := Aside0.mk h2
          have HW := Aside0.mk hw
          clear hl1 hl2 hw
          go_wp2_with fail
          · have hcm : c = m := by assumption
            refine (clone_calls' A 0 _ n w (Kd.C_below (mid_same HR.out (by omega) (by have := HH2.out; omega) hcap hcm) HB.out) HL1.out (by simp; omega)).mono ?_
            rintro e w1 ⟨v, rfl, ho, hb1⟩
            have hcell1 : w1.cell? ⟨g, 0, none⟩ = some (.slice A xs.length c) := (hb1.cell (p := ⟨g, 0, none⟩) (blk_lt HBl.out)).trans hcell
            have hfr1 : w1.frozen? ⟨g, 0, none⟩ = false := (hb1.frozen (p := ⟨g, 0, none⟩) (blk_lt HBl.out)).trans hfr
            have HB1 := Aside0.mk hb1
            have HO := Aside0.mk ho
            have HC := Aside0.mk hcm
            clear hb1 ho hcm
            go_wp2_with fail
            go_ret2
            have hce : c = m + n := by have := HH2.out; have := HC.out; omega
            exact bytes_end HBl.out hg (by have := HH2.out; omega) HB.out HB1.out HO.out HL2.out (drop_same HR.out (by have := HH2.out; omega) hcap hce) (by omega)
          · have hcm : ¬ c = m := by assumption
            refine (clone_calls' _ _ _ n w (Kd.C_below (mid_on HR.out (by omega) (by have := HH2.out; omega) hcap hcm) HB.out) HL1.out (by simp; omega)).mono ?_
            rintro e w1 ⟨v, rfl, ho, hb1⟩
            have hcell1 : w1.cell? ⟨g, 0, none⟩ = some (.slice A xs.length c) := (hb1.cell (p := ⟨g, 0, none⟩) (blk_lt HBl.out)).trans hcell
            have hfr1 : w1.frozen? ⟨g, 0, none⟩ = false := (hb1.frozen (p := ⟨g, 0, none⟩) (blk_lt HBl.out)).trans hfr
            have HB1 := Aside0.mk hb1
            have HO := Aside0.mk ho
            clear hb1 ho
            go_wp2_with fail
            · have hce : c = m + n := by assumption
              go_ret2
              exact bytes_end HBl.out hg (by have := HH2.out; omega) HB.out HB1.out HO.out HL2.out (drop_same HR.out (by have := HH2.out; omega) hcap hce) (by omega)
            · have hce : ¬ c = m + n := by assumption
              go_ret2
              exact bytes_end HBl.out hg (by have := HH2.out; omega) HB.out HB1.out HO.out HL2.out (drop_on HR.out (by have := HH2.out; omega) hcap hce) (by omega)
        · have h := H.out
          rw [if_pos (by omega)] at h
          injection h with h3 h4
          injection h4 with h4 h5
          subst h3 h4 h5
          clear hw
          go_wp2
          go_ret2
          exact ⟨_, rfl, Kd.R_nil _ _ _ _ _, HI.out, HB.out, KeepBut.refl _ _ _⟩
      · have h := H.out
        rw [if_pos (by omega)] at h
        injection h with h3 h4
        injection h4 with h4 h5
        subst h3 h4 h5
        clear hw
        go_wp2
        go_ret2
        exact ⟨_, rfl, Kd.R_nil _ _ _ _ _, HI.out, HB.out, KeepBut.refl _ _ _⟩
end Go.Proofs.Ytekakngojhnleaa.Rd
/- The document's reader: each function as a plain function with rounds, and that the Go function comes to it (as the kit's print.sh wrote them for this seat; the state tells the capacity, too). -/
namespace Go.Proofs.Ytekakngojhnleaa.Rf
open Go.RowKit Go.Proofs.Ytekakngojhnleaa.PFrameDecodes Go.Proofs.YtekakngojhnleaaW.PrintWords Go.Proofs.YtekakngojhnleaaW.PrintLast Go.Proofs.YtekakngojhnleaaW.PrintMore
attribute [local go_sem] max2_int min2_int max_two min_two max_three min_three max_four min_four
set_option linter.unusedVariables false
set_option linter.unusedSimpArgs false

/-- A state of type 118 at block g of W; what its slices lead to came in by w0. -/
def IsS118 (w0 W : World) (g : Nat) (f0 : List Int) (f1 : Int) : Prop := ∃ A0 c0, W.heap[g]? = some (.cells #[.slice A0 f0.length c0, .int .i64 f1] 118 (0, 0)) ∧ (w0.heap.size ≤ g ∧ f0.length ≤ c0) ∧ Kd.C (Kd.int .u8) w0 A0 f0.length f0
theorem IsS118.grown {w0 W : World} {g : Nat} {f0 : List Int} {f1 : Int} {W1 : World} {row : Option Nat} (h : IsS118 w0 W g f0 f1) (hw : W.grownBy W1 row) (hne : some g ≠ row) : IsS118 w0 W1 g f0 f1 := by
  obtain ⟨A0, c0, hb, hg, hr0⟩ := h
  exact ⟨A0, c0, blk_grown hb hw hne, hg, hr0⟩
theorem IsS118.own_neN {w0 W : World} {g : Nat} {f0 : List Int} {f1 : Int} {α : Type} {d : Kd α} {e : Nat} {base : Nat} {ok : Nat → Prop} {v : Value} {xs : List α} (h : IsS118 w0 W g f0 f1) (ho : Kd.N d e W base ok v xs) (ht : e ≠ 118) : some g ≠ v.ownBlock := by
  obtain ⟨A0, c0, hb, hg, hr0⟩ := h
  exact Kd.N_ne ho hb ht
theorem IsS118.fresh {w0 W : World} {g : Nat} {f0 : List Int} {f1 : Int} (h : IsS118 w0 W g f0 f1) : ∀ k, W.heap.size ≤ k → k ≠ g := by
  obtain ⟨A0, c0, hb, hg, hr0⟩ := h
  exact Kd.freshB hb
theorem IsS118.kept {w0 W : World} {g : Nat} {f0 : List Int} {f1 : Int} {W1 : World} {S : Nat → Prop} (h : IsS118 w0 W g f0 f1) (hk : Kept W W1 S) (hne : ¬ S g) : IsS118 w0 W1 g f0 f1 := by
  obtain ⟨A0, c0, hb, hg, hr0⟩ := h
  exact ⟨A0, c0, blk_kept hb hk hne, hg, hr0⟩
theorem IsS118.below {w0 W : World} {g : Nat} {f0 : List Int} {f1 : Int} {W1 : World} (h : IsS118 w0 W g f0 f1) (hw : Below W.heap.size W W1) : IsS118 w0 W1 g f0 f1 := h.grown (grown_of_below hw none) (by simp)
theorem IsS118.alloc {w0 W : World} {g : Nat} {f0 : List Int} {f1 : Int} (h : IsS118 w0 W g f0 f1) (o : Obj) : IsS118 w0 (W.alloc o) g f0 f1 := h.below (below_alloc (Below.refl _ _) o)
theorem IsS118.drewN {w0 W : World} {g : Nat} {f0 : List Int} {f1 : Int} (h : IsS118 w0 W g f0 f1) (m : Nat) : IsS118 w0 (W.drewN m) g f0 f1 := h
theorem IsS118.drew {w0 W : World} {g : Nat} {f0 : List Int} {f1 : Int} (h : IsS118 w0 W g f0 f1) : IsS118 w0 W.drew g f0 f1 := h
theorem IsS118.at_ {w0 W : World} {g : Nat} {f0 : List Int} {f1 : Int} {w' : World} {m : Nat} (hq : W.drewN m = w') (h : IsS118 w0 W g f0 f1) : IsS118 w0 w' g f0 f1 := by subst hq; exact IsS118.drewN h m
theorem IsS118.apart {w0 W : World} {g : Nat} {f0 : List Int} {f1 : Int} {α : Type} {d : Kd α} {e : Nat} {base : Nat} {ok : Nat → Prop} {v : Value} {xs : List α} (h : IsS118 w0 W g f0 f1) (ho : d.R e W base ok v xs) (ht : ∀ q, q ∈ e :: d.E → q ≠ 118) : d.R e W base (fun k => ok k ∧ k ≠ g) v xs := by
  obtain ⟨A0, c0, hb, hg, hr0⟩ := h
  exact Kd.R_types ho hb ht
theorem IsS118.own_ne {w0 W : World} {g : Nat} {f0 : List Int} {f1 : Int} {α : Type} {d : Kd α} {e : Nat} {base : Nat} {ok : Nat → Prop} {v : Value} {xs : List α} (h : IsS118 w0 W g f0 f1) (ho : d.R e W base ok v xs) (ht : e ≠ 118) : some g ≠ v.ownBlock := by
  obtain ⟨A0, c0, hb, hg, hr0⟩ := h
  exact Kd.R_ne ho hb ht
theorem IsS118.apartQ {w0 W : World} {g : Nat} {f0 : List Int} {f1 : Int} {α : Type} {d : Kd α} {e : Nat} {base : Nat} {ok : Nat → Prop} {v : Value} {xs : List α} (h : IsS118 w0 W g f0 f1) (ho : d.Q e W base ok v xs) (ht : ∀ q, q ∈ e :: d.E → q ≠ 118) : d.Q e W base (fun k => ok k ∧ k ≠ g) v xs := by
  obtain ⟨A0, c0, hb, hg, hr0⟩ := h
  exact Kd.Q_types ho hb ht
theorem IsS118.own_neQ {w0 W : World} {g : Nat} {f0 : List Int} {f1 : Int} {α : Type} {d : Kd α} {e : Nat} {base : Nat} {ok : Nat → Prop} {v : Value} {xs : List α} (h : IsS118 w0 W g f0 f1) (ho : d.Q e W base ok v xs) (ht : e ≠ 118) : some g ≠ v.ownBlock := by
  obtain ⟨A0, c0, hb, hg, hr0⟩ := h
  exact Kd.Q_ne ho hb ht
theorem IsS118.apartS {w0 W : World} {g : Nat} {f0 : List Int} {f1 : Int} {α : Type} {d : Kd α} {e : Nat} {base : Nat} {ok : Nat → Prop} {v : Value} {xs : List α} (h : IsS118 w0 W g f0 f1) (ho : d.S e W base ok v xs) (ht : ∀ q, q ∈ e :: d.E → q ≠ 118) : d.S e W base (fun k => ok k ∧ k ≠ g) v xs := by
  obtain ⟨A0, c0, hb, hg, hr0⟩ := h
  exact Kd.S_types ho hb ht
theorem IsS118.own_neS {w0 W : World} {g : Nat} {f0 : List Int} {f1 : Int} {α : Type} {d : Kd α} {e : Nat} {base : Nat} {ok : Nat → Prop} {v : Value} {xs : List α} (h : IsS118 w0 W g f0 f1) (ho : d.S e W base ok v xs) (ht : e ≠ 118) : some g ≠ v.ownBlock := by
  obtain ⟨A0, c0, hb, hg, hr0⟩ := h
  exact Kd.S_ne ho hb ht
theorem IsS118.lt {w0 W : World} {g : Nat} {f0 : List Int} {f1 : Int} (h : IsS118 w0 W g f0 f1) : g < W.heap.size := by
  obtain ⟨A0, c0, hb, hg, hr0⟩ := h
  exact blk_lt hb
theorem IsS118.ge {w0 W : World} {g : Nat} {f0 : List Int} {f1 : Int} (h : IsS118 w0 W g f0 f1) : w0.heap.size ≤ g := by
  obtain ⟨A0, c0, hb, hg, hr0⟩ := h
  exact hg.1
theorem IsS118.ne_blk {w0 W : World} {g : Nat} {f0 : List Int} {f1 : Int} {a : Nat} {cs : Array Value} {t : TypeId} {fr : Nat × Nat} (h : IsS118 w0 W g f0 f1) (hb2 : W.heap[a]? = some (.cells cs t fr)) (ht : t ≠ 118) : g ≠ a := by
  obtain ⟨A0, c0, hb, hg, hr0⟩ := h
  rintro rfl
  rw [hb] at hb2
  injection hb2 with hb2
  injection hb2 with _ ht2
  exact ht ht2.symm
theorem IsS118.far {w0 W : World} {g : Nat} {f0 : List Int} {f1 : Int} {p : Addr} (h : IsS118 w0 W g f0 f1) (hne : g ≠ p.block) (u : Value) : IsS118 w0 (W.setCell p u) g f0 f1 := by
  obtain ⟨A0, c0, hb, hg, hr0⟩ := h
  exact ⟨A0, c0, blk_far hb hne u, hg, hr0⟩
theorem cellS118_0 {W : World} {g : Nat} {A0 : Option Addr} {c0 : Nat} {f0 : List Int} {f1 : Int} (h : W.heap[g]? = some (.cells #[.slice A0 f0.length c0, .int .i64 f1] 118 (0, 0))) : W.cell? ⟨g, 0, none⟩ = some (.slice A0 f0.length c0) := (blk_cell h 0).trans rfl
theorem cellS118_1 {W : World} {g : Nat} {A0 : Option Addr} {c0 : Nat} {f0 : List Int} {f1 : Int} (h : W.heap[g]? = some (.cells #[.slice A0 f0.length c0, .int .i64 f1] 118 (0, 0))) : W.cell? ⟨g, 1, none⟩ = some (.int .i64 f1) := (blk_cell h 1).trans rfl
theorem IsS118.set_1 {w0 W : World} {g : Nat} {f0 : List Int} {f1 : Int} (h : IsS118 w0 W g f0 f1) (x : Int) : IsS118 w0 (W.setCell ⟨g, 1, none⟩ (.int .i64 x)) g f0 x := by
  obtain ⟨A0, c0, hb, hg, hr0⟩ := h
  exact ⟨A0, c0, by simpa using blk_set hb 1 (.int .i64 x), hg, hr0⟩
theorem IsS118.new (w0 W : World) (A0 : Option Addr) (c0 : Nat) (f0 : List Int) (f1 : Int) (hB : Below w0.heap.size w0 W) (hr0 : Kd.C (Kd.int .u8) w0 A0 f0.length f0) (hc0 : f0.length ≤ c0) : IsS118 w0 (W.alloc (.cells #[.slice A0 f0.length c0, .int .i64 f1] 118)) W.heap.size f0 f1 := ⟨A0, c0, by simpa using heap_alloc_new W _, ⟨hB.size, hc0⟩, hr0⟩

/-! ### windbreakref09_Reader_next: function 88 -/
mutual
def windbreakref09_Reader_next.l0 : Nat → Int → Int → Int → List Int → Int → Option (Int × Int × Int)
  | 0, _, _, _, _, _ => none
  | k + 1, x4, x5, x6, x1000, x1001 => if (wrap64 (x1001 + x6)) < (x1000.length : Int) then (windbreakref09_Reader_next.j1 k x4 x5 x6 (decide (x6 < 10)) x1000 x1001) else (windbreakref09_Reader_next.j1 k x4 x5 x6 false x1000 x1001)
def windbreakref09_Reader_next.j1 : Nat → Int → Int → Int → Bool → List Int → Int → Option (Int × Int × Int)
  | 0, _, _, _, _, _, _ => none
  | k + 1, x4, x5, x6, x24, x1000, x1001 => if x24 = true then (if 0 ≤ (wrap64 (x1001 + x6)) then (if (wrap64 (x1001 + x6)) < (x1000.length : Int) then (if x6 = 9 then (windbreakref09_Reader_next.j2 k x4 x5 x6 (Int.tmod (IntKind.u64.wrap (rd x1000 (wrap64 (x1001 + x6)))) 128) (decide ((IntKind.u64.wrap (rd x1000 (wrap64 (x1001 + x6)))) ≥ 128)) (decide ((Int.tmod (IntKind.u64.wrap (rd x1000 (wrap64 (x1001 + x6)))) 128) > 1)) x1000 x1001) else (windbreakref09_Reader_next.j2 k x4 x5 x6 (Int.tmod (IntKind.u64.wrap (rd x1000 (wrap64 (x1001 + x6)))) 128) (decide ((IntKind.u64.wrap (rd x1000 (wrap64 (x1001 + x6)))) ≥ 128)) false x1000 x1001)) else (none)) else (none)) else (some (0, 0, x1001))
def windbreakref09_Reader_next.j2 : Nat → Int → Int → Int → Int → Bool → Bool → List Int → Int → Option (Int × Int × Int)
  | 0, _, _, _, _, _, _, _, _ => none
  | k + 1, x4, x5, x6, x7, x8, x49, x1000, x1001 => if x49 = true then (some (0, 0, x1001)) else (if x8 = true then (windbreakref09_Reader_next.l0 k (IntKind.u64.wrap (x4 + (IntKind.u64.wrap (x7 * x5)))) (IntKind.u64.wrap (x5 * 128)) (wrap64 (x6 + 1)) x1000 x1001) else (if x6 > 0 then (if x7 = 0 then (some (0, 0, x1001)) else (some (IntKind.u64.wrap (x4 + (IntKind.u64.wrap (x7 * x5))), wrap64 (x6 + 1), x1001))) else (some (IntKind.u64.wrap (x4 + (IntKind.u64.wrap (x7 * x5))), wrap64 (x6 + 1), x1001))))
end
def windbreakref09_Reader_next.f (k : Nat) (s0_0 : List Int) (s0_1 : Int) : Option (Int × Int × Int) := windbreakref09_Reader_next.l0 k 0 1 0 s0_0 s0_1
theorem windbreakref09_Reader_next.mono_l : ∀ k, (∀ y0 y1 y2 y3 y4, LeO (windbreakref09_Reader_next.l0 k y0 y1 y2 y3 y4) (windbreakref09_Reader_next.l0 (k + 1) y0 y1 y2 y3 y4)) ∧ (∀ y0 y1 y2 y3 y4 y5, LeO (windbreakref09_Reader_next.j1 k y0 y1 y2 y3 y4 y5) (windbreakref09_Reader_next.j1 (k + 1) y0 y1 y2 y3 y4 y5)) ∧ (∀ y0 y1 y2 y3 y4 y5 y6 y7, LeO (windbreakref09_Reader_next.j2 k y0 y1 y2 y3 y4 y5 y6 y7) (windbreakref09_Reader_next.j2 (k + 1) y0 y1 y2 y3 y4 y5 y6 y7))
  | 0 => ⟨fun _ _ _ _ _ r h => by simp [windbreakref09_Reader_next.l0] at h, fun _ _ _ _ _ _ r h => by simp [windbreakref09_Reader_next.j1] at h, fun _ _ _ _ _ _ _ _ r h => by simp [windbreakref09_Reader_next.j2] at h⟩
  | k + 1 => by
    obtain ⟨ih0, ih1, ih2⟩ := windbreakref09_Reader_next.mono_l k
    refine ⟨?_, ?_, ?_⟩
    · intro y0 y1 y2 y3 y4
      unfold windbreakref09_Reader_next.l0
      repeat' first
      | (with_reducible exact ih0 _ _ _ _ _)
      | (with_reducible exact ih1 _ _ _ _ _ _)
      | (with_reducible exact ih2 _ _ _ _ _ _ _ _)
      | (with_reducible exact LeO.refl _)
      | (with_reducible exact LeO.none _)
      | (with_reducible refine LeO.ite ?_ ?_)
      | (with_reducible refine LeO.bind ?_ (fun _ => ?_))
      | exact ih0 _ _ _ _ _
      | exact ih1 _ _ _ _ _ _
      | exact ih2 _ _ _ _ _ _ _ _
      | exact LeO.none _
      | refine LeO.ite ?_ ?_
      | refine LeO.bind ?_ (fun _ => ?_)
    · intro y0 y1 y2 y3 y4 y5
      unfold windbreakref09_Reader_next.j1
      repeat' first
      | (with_reducible exact ih0 _ _ _ _ _)
      | (with_reducible exact ih1 _ _ _ _ _ _)
      | (with_reducible exact ih2 _ _ _ _ _ _ _ _)
      | (with_reducible exact LeO.refl _)
      | (with_reducible exact LeO.none _)
      | (with_reducible refine LeO.ite ?_ ?_)
      | (with_reducible refine LeO.bind ?_ (fun _ => ?_))
      | exact ih0 _ _ _ _ _
      | exact ih1 _ _ _ _ _ _
      | exact ih2 _ _ _ _ _ _ _ _
      | exact LeO.none _
      | refine LeO.ite ?_ ?_
      | refine LeO.bind ?_ (fun _ => ?_)
    · intro y0 y1 y2 y3 y4 y5 y6 y7
      unfold windbreakref09_Reader_next.j2
      repeat' first
      | (with_reducible exact ih0 _ _ _ _ _)
      | (with_reducible exact ih1 _ _ _ _ _ _)
      | (with_reducible exact ih2 _ _ _ _ _ _ _ _)
      | (with_reducible exact LeO.refl _)
      | (with_reducible exact LeO.none _)
      | (with_reducible refine LeO.ite ?_ ?_)
      | (with_reducible refine LeO.bind ?_ (fun _ => ?_))
      | exact ih0 _ _ _ _ _
      | exact ih1 _ _ _ _ _ _
      | exact ih2 _ _ _ _ _ _ _ _
      | exact LeO.none _
      | refine LeO.ite ?_ ?_
      | refine LeO.bind ?_ (fun _ => ?_)
theorem windbreakref09_Reader_next.mono : ∀ a0 a1 k, LeO (windbreakref09_Reader_next.f k a0 a1) (windbreakref09_Reader_next.f (k + 1) a0 a1) := by
  intro a0 a1 k
  obtain ⟨ih0, ih1, ih2⟩ := windbreakref09_Reader_next.mono_l k
  unfold windbreakref09_Reader_next.f
  repeat' first
      | (with_reducible exact ih0 _ _ _ _ _)
      | (with_reducible exact ih1 _ _ _ _ _ _)
      | (with_reducible exact ih2 _ _ _ _ _ _ _ _)
      | (with_reducible exact LeO.refl _)
      | (with_reducible exact LeO.none _)
      | (with_reducible refine LeO.ite ?_ ?_)
      | (with_reducible refine LeO.bind ?_ (fun _ => ?_))
      | exact ih0 _ _ _ _ _
      | exact ih1 _ _ _ _ _ _
      | exact ih2 _ _ _ _ _ _ _ _
      | exact LeO.none _
      | refine LeO.ite ?_ ?_
      | refine LeO.bind ?_ (fun _ => ?_)
set_option maxHeartbeats 8000000 in
set_option maxRecDepth 100000 in
theorem windbreakref09_Reader_next.calls (k : Nat) (g : Nat) (s0_0 : List Int) (s0_1 : Int) (r1 : Int) (r2 : Int) (r3 : Int) (w0 w : World) (hI : IsS118 w0 w g s0_0 s0_1) (hB : Below w0.heap.size w0 w) (h : windbreakref09_Reader_next.f k s0_0 s0_1 = some (r1, r2, r3)) :
    Calls Try.prog 88 #[.pointer (some ⟨g, 0, none⟩)] w fun e w' => e = .returned (.tuple #[.int .u64 r1, .int .i64 r2]) ∧ IsS118 w0 w' g s0_0 r3 ∧ Below w0.heap.size w0 w' ∧ KeepBut w w' g none := by
  have HI0 := Aside0.mk hI
  have HK := Aside0.mk (KeepBut.refl w g none)
  have HL := Aside0.mk hB.size
  clear hI
  have HW0 := Aside0.mk hB.size
  have HB := Aside0.mk hB
  clear hB
  have H : (windbreakref09_Reader_next.l0 k 0 1 0 s0_0 s0_1) = some (r1, r2, r3) := h
  clear h
  have H' := Aside0.mk H
  clear H
  go_enter Try.func88, Try.ntmps88
  go_wp2
  repeat (go_quiet (fail); try go_wp2)
  go_loopg [4, 5, 6] k (fun kq v4 v5 v6 w' => ∃ (x4_1 : Int) (x5_1 : Int) (x6_1 : Int), v4 = .int .u64 x4_1 ∧ v5 = .int .u64 x5_1 ∧ v6 = .int .i64 x6_1 ∧ Aside0 (windbreakref09_Reader_next.l0 kq x4_1 x5_1 x6_1 s0_0 s0_1 = some (r1, r2, r3)) ∧ Aside0 (kq ≤ k) ∧ Aside0 (IsS118 w0 w' g s0_0 s0_1) ∧ Aside0 (KeepBut w w' g none) ∧ Aside0 (Below w0.heap.size w0 w'))
  case atStart => exact ⟨(0), (1), (0), (by first | rfl | (simp; done) | (simp [*]; done)), (by first | rfl | (simp; done) | (simp [*]; done)), (by first | rfl | (simp; done) | (simp [*]; done)), H', ⟨Nat.le_refl _⟩, ⟨by repeat (first | (with_reducible first | exact HI0.out | apply IsS118.alloc | apply IsS118.drewN | apply IsS118.drew | apply IsS118.set_1) | exact HI0.out)⟩, ⟨by repeat (first | (with_reducible first | exact HK.out | apply KeepBut.set_ | apply keep_drewN | apply keep_drew | apply keep_alloc) | exact HK.out)⟩, ⟨by repeat (first | (with_reducible first | exact HB.out | apply below_alloc | apply pw_below_drewN | apply below_drew1 | refine below_set ?_ (IsS118.ge HI0.out)) | exact HB.out)⟩⟩
  case round =>
    clear H'
    obtain ⟨x4_1, x5_1, x6_1, rfl, rfl, rfl, HA, HK1, HI0, HK, HB⟩ := hrel
    cases gk with
    | zero => exact absurd HA.out (by simp [windbreakref09_Reader_next.l0])
    | succ k1 =>
      have H := HA.out
      clear HA
      simp only [windbreakref09_Reader_next.l0] at H
      have HC2 := Aside0.mk H
      clear H
      go_upto_region 4 with (fail)
      repeat (go_quiet (fail); go_upto_region 4 with (fail))
      go_cut [24] (fun v24 wc => ∃ (kq : Nat) (x24_1 : Bool), v24 = .bool x24_1 ∧ Aside0 (windbreakref09_Reader_next.j1 kq x4_1 x5_1 x6_1 x24_1 s0_0 s0_1 = some (r1, r2, r3)) ∧ Aside0 (kq ≤ k1) ∧ Aside0 (IsS118 w0 wc g s0_0 s0_1) ∧ Aside0 (KeepBut w wc g none) ∧ Aside0 (Below w0.heap.size w0 wc))
      case first =>
        have H := HC2.out
        clear HC2
        by_cases c3 : (wrap64 (s0_1 + x6_1)) < (s0_0.length : Int)
        · rw [if_pos c3] at H
          have c3b0 : decide ((wrap64 (s0_1 + x6_1)) < (s0_0.length : Int)) = true := decide_eq_true c3
          clear c3
          (first | rw [c3b0] | (simp only [i64_w, i32_w]; rw [c3b0]) | skip)
          have H' := Aside0.mk H
          clear H
          obtain ⟨ASz4_0, cSz4_0, HGz4, hgz4, HSz4_0⟩ := HI0.out
          have hcz4_0 := cellS118_0 HGz4
          have hcz4_1 := cellS118_1 HGz4
          have hfz4_1 := blk_frozen HGz4 1
          clear HGz4 hgz4
          go_wp2
          repeat (go_quiet (fail); try go_wp2)
          go_meet
          case rel => exact ⟨_, (decide (x6_1 < 10)), (by first | rfl | (simp; done) | (simp [*]; done)), H', ⟨by have := HK1.out; first | omega | exact Nat.le_refl _⟩, ⟨by repeat (first | (with_reducible first | exact HI0.out | apply IsS118.alloc | apply IsS118.drewN | apply IsS118.drew | apply IsS118.set_1) | exact HI0.out)⟩, ⟨by repeat (first | (with_reducible first | exact HK.out | apply KeepBut.set_ | apply keep_drewN | apply keep_drew | apply keep_alloc) | exact HK.out)⟩, ⟨by repeat (first | (with_reducible first | exact HB.out | apply below_alloc | apply pw_below_drewN | apply below_drew1 | refine below_set ?_ (IsS118.ge HI0.out)) | exact HB.out)⟩⟩
        · rw [if_neg c3] at H
          have c3b0 : decide ((wrap64 (s0_1 + x6_1)) < (s0_0.length : Int)) = false := decide_eq_false c3
          clear c3
          (first | rw [c3b0] | (simp only [i64_w, i32_w]; rw [c3b0]) | skip)
          have H' := Aside0.mk H
          clear H
          obtain ⟨ASz5_0, cSz5_0, HGz5, hgz5, HSz5_0⟩ := HI0.out
          have hcz5_0 := cellS118_0 HGz5
          have hcz5_1 := cellS118_1 HGz5
          have hfz5_1 := blk_frozen HGz5 1
          clear HGz5 hgz5
          go_wp2
          repeat (go_quiet (fail); try go_wp2)
          go_meet
          case rel => exact ⟨_, (false), (by first | rfl | (simp; done) | (simp [*]; done)), H', ⟨by have := HK1.out; first | omega | exact Nat.le_refl _⟩, ⟨by repeat (first | (with_reducible first | exact HI0.out | apply IsS118.alloc | apply IsS118.drewN | apply IsS118.drew | apply IsS118.set_1) | exact HI0.out)⟩, ⟨by repeat (first | (with_reducible first | exact HK.out | apply KeepBut.set_ | apply keep_drewN | apply keep_drew | apply keep_alloc) | exact HK.out)⟩, ⟨by repeat (first | (with_reducible first | exact HB.out | apply below_alloc | apply pw_below_drewN | apply below_drew1 | refine below_set ?_ (IsS118.ge HI0.out)) | exact HB.out)⟩⟩
      case rest =>
        clear HC2
        try clear p2
        try clear c3
        try clear c3b0
        try clear hcz4_0
        try clear hcz4_1
        try clear hcz5_0
        try clear hcz5_1
        try clear hfz4_1
        try clear hfz5_1
        obtain ⟨kq, x24_1, rfl, HA, HJ1, HI0, HK, HB⟩ := hcut
        cases kq with
        | zero => exact absurd HA.out (by simp [windbreakref09_Reader_next.j1])
        | succ kj1 =>
          have H := HA.out
          clear HA
          simp only [windbreakref09_Reader_next.j1] at H
          by_cases c6 : x24_1 = true
          · subst c6
            have H1 : (if 0 ≤ (wrap64 (s0_1 + x6_1)) then (if (wrap64 (s0_1 + x6_1)) < (s0_0.length : Int) then (if x6_1 = 9 then (windbreakref09_Reader_next.j2 kj1 x4_1 x5_1 x6_1 (Int.tmod (IntKind.u64.wrap (rd s0_0 (wrap64 (s0_1 + x6_1)))) 128) (decide ((IntKind.u64.wrap (rd s0_0 (wrap64 (s0_1 + x6_1)))) ≥ 128)) (decide ((Int.tmod (IntKind.u64.wrap (rd s0_0 (wrap64 (s0_1 + x6_1)))) 128) > 1)) s0_0 s0_1) else (windbreakref09_Reader_next.j2 kj1 x4_1 x5_1 x6_1 (Int.tmod (IntKind.u64.wrap (rd s0_0 (wrap64 (s0_1 + x6_1)))) 128) (decide ((IntKind.u64.wrap (rd s0_0 (wrap64 (s0_1 + x6_1)))) ≥ 128)) false s0_0 s0_1)) else (none)) else (none)) = some (r1, r2, r3) := by rw [if_pos rfl] at H; exact H
            clear H
            have H := H1
            clear H1
            obtain ⟨ji7, hji7⟩ : ∃ j_ : Int, (wrap64 (s0_1 + x6_1)) = j_ := ⟨_, rfl⟩
            replace H : (if 0 ≤ (ji7) then (if (ji7) < (s0_0.length : Int) then (if x6_1 = 9 then (windbreakref09_Reader_next.j2 kj1 x4_1 x5_1 x6_1 (Int.tmod (IntKind.u64.wrap (rd s0_0 (ji7))) 128) (decide ((IntKind.u64.wrap (rd s0_0 (ji7))) ≥ 128)) (decide ((Int.tmod (IntKind.u64.wrap (rd s0_0 (ji7))) 128) > 1)) s0_0 s0_1) else (windbreakref09_Reader_next.j2 kj1 x4_1 x5_1 x6_1 (Int.tmod (IntKind.u64.wrap (rd s0_0 (ji7))) 128) (decide ((IntKind.u64.wrap (rd s0_0 (ji7))) ≥ 128)) false s0_0 s0_1)) else (none)) else (none)) = some (r1, r2, r3) := by first | (rw [hji7] at H; exact H) | (simp only [hji7] at H ⊢; exact H)
            have hji7w : (IntKind.i64.wrap (s0_1 + x6_1)) = ji7 := (i64_w _).trans hji7
            by_cases c8 : 0 ≤ (ji7)
            · rw [if_pos c8] at H
              have c8b0 : decide (0 ≤ (ji7)) = true := decide_eq_true c8
              clear c8
              by_cases c9 : (ji7) < (s0_0.length : Int)
              · rw [if_pos c9] at H
                have c9b0 : decide ((ji7) < (s0_0.length : Int)) = true := decide_eq_true c9
                clear c9
                have HC10 := Aside0.mk H
                clear H
                obtain ⟨ASz11_0, cSz11_0, HGz11, hgz11, HSz11_0⟩ := HI0.out
                have hcz11_0 := cellS118_0 HGz11
                have hcz11_1 := cellS118_1 HGz11
                have hfz11_1 := blk_frozen HGz11 1
                clear HGz11 hgz11
                have p152 : 0 ≤ ((ji7) : Int) := of_decide_eq_true (by first | (with_reducible assumption) | assumption)
                have q152 : (ji7) < (s0_0.length : Int) := of_decide_eq_true (by first | (with_reducible assumption) | assumption)
                obtain ⟨ad152, e152, hx152_0⟩ := Kd.at_int HSz11_0 (ji7) p152 q152
                cases e152
                replace hx152_0 := pw_cell_below HB.out hx152_0
                replace p152 := eq_true p152
                replace q152 := eq_true q152
                go_upto_region 9 with (fail)
                repeat (go_quiet (fail); go_upto_region 9 with (fail))
                go_cut [49] (fun v49 wc => ∃ (kq : Nat) (x49_9 : Bool), v49 = .bool x49_9 ∧ Aside0 (windbreakref09_Reader_next.j2 kq x4_1 x5_1 x6_1 (Int.tmod (IntKind.u64.wrap (rd s0_0 (ji7))) 128) (decide ((IntKind.u64.wrap (rd s0_0 (ji7))) ≥ 128)) x49_9 s0_0 s0_1 = some (r1, r2, r3)) ∧ Aside0 (kq ≤ kj1) ∧ Aside0 (IsS118 w0 wc g s0_0 s0_1) ∧ Aside0 (KeepBut w wc g none) ∧ Aside0 (Below w0.heap.size w0 wc))
                case first =>
                  have H := HC10.out
                  clear HC10
                  by_cases c12 : x6_1 = 9
                  · rw [if_pos c12] at H
                    have c12b0 : (x6_1 == 9) = true := beq_iff_eq.mpr c12
                    have c12b1 : (x6_1 != 9) = false := bne_eq_false_iff_eq.mpr c12
                    clear c12
                    (first | rw [c12b0] | (simp only [i64_w, i32_w]; rw [c12b0]) | skip)
                    have H' := Aside0.mk H
                    clear H
                    go_wp2
                    repeat (go_quiet (fail); try go_wp2)
                    go_meet
                    case rel => exact ⟨_, (decide ((Int.tmod (IntKind.u64.wrap (rd s0_0 (ji7))) 128) > 1)), (by first | rfl | (simp; done) | (simp only [← hji7] <;> (first | rfl | simp)) | (simp [*]; done)), H', ⟨by have := HK1.out; have := HJ1.out; first | omega | exact Nat.le_refl _⟩, ⟨by repeat (first | (with_reducible first | exact HI0.out | apply IsS118.alloc | apply IsS118.drewN | apply IsS118.drew | apply IsS118.set_1) | exact HI0.out)⟩, ⟨by repeat (first | (with_reducible first | exact HK.out | apply KeepBut.set_ | apply keep_drewN | apply keep_drew | apply keep_alloc) | exact HK.out)⟩, ⟨by repeat (first | (with_reducible first | exact HB.out | apply below_alloc | apply pw_below_drewN | apply below_drew1 | refine below_set ?_ (IsS118.ge HI0.out)) | exact HB.out)⟩⟩
                  · rw [if_neg c12] at H
                    have c12b0 : (x6_1 == 9) = false := beq_eq_false_iff_ne.mpr c12
                    have c12b1 : (x6_1 != 9) = true := bne_iff_ne.mpr c12
                    (first | rw [c12b0] | (simp only [i64_w, i32_w]; rw [c12b0]) | skip)
                    have H' := Aside0.mk H
                    clear H
                    go_wp2
                    repeat (go_quiet (fail); try go_wp2)
                    go_meet
                    case rel => exact ⟨_, (false), (by first | rfl | (simp; done) | (simp [*]; done)), H', ⟨by have := HK1.out; have := HJ1.out; first | omega | exact Nat.le_refl _⟩, ⟨by repeat (first | (with_reducible first | exact HI0.out | apply IsS118.alloc | apply IsS118.drewN | apply IsS118.drew | apply IsS118.set_1) | exact HI0.out)⟩, ⟨by repeat (first | (with_reducible first | exact HK.out | apply KeepBut.set_ | apply keep_drewN | apply keep_drew | apply keep_alloc) | exact HK.out)⟩, ⟨by repeat (first | (with_reducible first | exact HB.out | apply below_alloc | apply pw_below_drewN | apply below_drew1 | refine below_set ?_ (IsS118.ge HI0.out)) | exact HB.out)⟩⟩
                case rest =>
                  clear HC10
                  try clear c1
                  try clear p1
                  try clear q1
                  try clear hx1
                  try clear p2
                  try clear c3
                  try clear c3b0
                  try clear c6
                  try clear p6
                  try clear c8
                  try clear c8b0
                  try clear c9
                  try clear c9b0
                  try clear c12
                  try clear c12b0
                  try clear c12b1
                  try clear hcz11_0
                  try clear hcz11_1
                  try clear hcz4_0
                  try clear hcz4_1
                  try clear hcz5_0
                  try clear hcz5_1
                  try clear hfz11_1
                  try clear hfz4_1
                  try clear hfz5_1
                  try clear hx152_0
                  try clear p152
                  try clear p2
                  try clear q152
                  obtain ⟨kq, x49_9, rfl, HA, HJ9, HI0, HK, HB⟩ := hcut
                  cases kq with
                  | zero => exact absurd HA.out (by simp [windbreakref09_Reader_next.j2])
                  | succ kj9 =>
                    have H := HA.out
                    clear HA
                    simp only [windbreakref09_Reader_next.j2] at H
                    by_cases c13 : x49_9 = true
                    · subst c13
                      have H1 : (some (0, 0, s0_1)) = some (r1, r2, r3) := by rw [if_pos rfl] at H; exact H
                      clear H
                      have H := H1
                      clear H1
                      simp only [Option.some.injEq, Prod.mk.injEq] at H
                      obtain ⟨rfl, rfl, rfl⟩ := H
                      go_wp2
                      repeat (go_quiet (fail); try go_wp2)
                      go_ret2
                      exact ⟨by first | rfl | (simp [errW_none, errW_some] <;> rfl) | (simp only [← hji7]; first | rfl | (simp [errW_none, errW_some] <;> rfl)) | (simp [*, errW_none, errW_some] <;> rfl), by repeat (first | (with_reducible first | exact HI0.out | apply IsS118.alloc | apply IsS118.drewN | apply IsS118.drew | apply IsS118.set_1) | exact HI0.out), by repeat (first | (with_reducible first | exact HB.out | apply below_alloc | apply pw_below_drewN | apply below_drew1 | refine below_set ?_ (IsS118.ge HI0.out)) | exact HB.out), by repeat (first | (with_reducible first | exact HK.out | apply KeepBut.set_ | apply keep_drewN | apply keep_drew | apply keep_alloc) | exact HK.out)⟩
                    · replace c13 := Bool.eq_false_iff.mpr c13
                      subst c13
                      have H1 : (if (decide ((IntKind.u64.wrap (rd s0_0 (ji7))) ≥ 128)) = true then (windbreakref09_Reader_next.l0 kj9 (IntKind.u64.wrap (x4_1 + (IntKind.u64.wrap ((Int.tmod (IntKind.u64.wrap (rd s0_0 (ji7))) 128) * x5_1)))) (IntKind.u64.wrap (x5_1 * 128)) (wrap64 (x6_1 + 1)) s0_0 s0_1) else (if x6_1 > 0 then (if (Int.tmod (IntKind.u64.wrap (rd s0_0 (ji7))) 128) = 0 then (some (0, 0, s0_1)) else (some (IntKind.u64.wrap (x4_1 + (IntKind.u64.wrap ((Int.tmod (IntKind.u64.wrap (rd s0_0 (ji7))) 128) * x5_1))), wrap64 (x6_1 + 1), s0_1))) else (some (IntKind.u64.wrap (x4_1 + (IntKind.u64.wrap ((Int.tmod (IntKind.u64.wrap (rd s0_0 (ji7))) 128) * x5_1))), wrap64 (x6_1 + 1), s0_1)))) = some (r1, r2, r3) := by rw [if_neg (show ¬ (false = true) by decide)] at H; exact H
                      clear H
                      have H := H1
                      clear H1
                      by_cases c14 : (decide ((IntKind.u64.wrap (rd s0_0 (ji7))) ≥ 128)) = true
                      · rw [if_pos c14] at H
                        have c14b0 : (decide ((IntKind.u64.wrap (rd s0_0 (ji7))) ≥ 128)) = true := c14
                        clear c14
                        have H' := Aside0.mk H
                        clear H
                        go_wp2
                        repeat (go_quiet (fail); try go_wp2)
                        go_roundg kj9
                        case measure => have := HK1.out; have := HJ1.out; have := HJ9.out; omega
                        case rel => exact ⟨(IntKind.u64.wrap (x4_1 + (IntKind.u64.wrap ((Int.tmod (IntKind.u64.wrap (rd s0_0 (ji7))) 128) * x5_1)))), (IntKind.u64.wrap (x5_1 * 128)), (wrap64 (x6_1 + 1)), (by first | rfl | (simp; done) | (simp only [← hji7] <;> (first | rfl | simp)) | (simp [*]; done)), (by first | rfl | (simp; done) | (simp [*]; done)), (by first | rfl | (simp; done) | (simp [*]; done)), H', ⟨by have := HK1.out; have := HJ1.out; have := HJ9.out; omega⟩, ⟨by repeat (first | (with_reducible first | exact HI0.out | apply IsS118.alloc | apply IsS118.drewN | apply IsS118.drew | apply IsS118.set_1) | exact HI0.out)⟩, ⟨by repeat (first | (with_reducible first | exact HK.out | apply KeepBut.set_ | apply keep_drewN | apply keep_drew | apply keep_alloc) | exact HK.out)⟩, ⟨by repeat (first | (with_reducible first | exact HB.out | apply below_alloc | apply pw_below_drewN | apply below_drew1 | refine below_set ?_ (IsS118.ge HI0.out)) | exact HB.out)⟩⟩
                      · rw [if_neg c14] at H
                        have c14b0 : (decide ((IntKind.u64.wrap (rd s0_0 (ji7))) ≥ 128)) = false := by simpa using c14
                        clear c14
                        by_cases c15 : x6_1 > 0
                        · rw [if_pos c15] at H
                          have c15b0 : decide (0 < x6_1) = true := decide_eq_true c15
                          clear c15
                          by_cases c16 : (Int.tmod (IntKind.u64.wrap (rd s0_0 (ji7))) 128) = 0
                          · rw [if_pos c16] at H
                            have c16b0 : ((Int.tmod (IntKind.u64.wrap (rd s0_0 (ji7))) 128) == 0) = true := beq_iff_eq.mpr c16
                            have c16b1 : ((Int.tmod (IntKind.u64.wrap (rd s0_0 (ji7))) 128) != 0) = false := bne_eq_false_iff_eq.mpr c16
                            clear c16
                            simp only [Option.some.injEq, Prod.mk.injEq] at H
                            obtain ⟨rfl, rfl, rfl⟩ := H
                            go_wp2
                            repeat (go_quiet (fail); try go_wp2)
                            go_ret2
                            exact ⟨by first | rfl | (simp [errW_none, errW_some] <;> rfl) | (simp only [← hji7]; first | rfl | (simp [errW_none, errW_some] <;> rfl)) | (simp [*, errW_none, errW_some] <;> rfl), by repeat (first | (with_reducible first | exact HI0.out | apply IsS118.alloc | apply IsS118.drewN | apply IsS118.drew | apply IsS118.set_1) | exact HI0.out), by repeat (first | (with_reducible first | exact HB.out | apply below_alloc | apply pw_below_drewN | apply below_drew1 | refine below_set ?_ (IsS118.ge HI0.out)) | exact HB.out), by repeat (first | (with_reducible first | exact HK.out | apply KeepBut.set_ | apply keep_drewN | apply keep_drew | apply keep_alloc) | exact HK.out)⟩
                          · rw [if_neg c16] at H
                            have c16b0 : ((Int.tmod (IntKind.u64.wrap (rd s0_0 (ji7))) 128) == 0) = false := beq_eq_false_iff_ne.mpr c16
                            have c16b1 : ((Int.tmod (IntKind.u64.wrap (rd s0_0 (ji7))) 128) != 0) = true := bne_iff_ne.mpr c16
                            simp only [Option.some.injEq, Prod.mk.injEq] at H
                            obtain ⟨rfl, rfl, rfl⟩ := H
                            go_wp2
                            repeat (go_quiet (fail); try go_wp2)
                            go_ret2
                            exact ⟨by first | rfl | (simp [errW_none, errW_some] <;> rfl) | (simp only [← hji7]; first | rfl | (simp [errW_none, errW_some] <;> rfl)) | (simp [*, errW_none, errW_some] <;> rfl), by repeat (first | (with_reducible first | exact HI0.out | apply IsS118.alloc | apply IsS118.drewN | apply IsS118.drew | apply IsS118.set_1) | exact HI0.out), by repeat (first | (with_reducible first | exact HB.out | apply below_alloc | apply pw_below_drewN | apply below_drew1 | refine below_set ?_ (IsS118.ge HI0.out)) | exact HB.out), by repeat (first | (with_reducible first | exact HK.out | apply KeepBut.set_ | apply keep_drewN | apply keep_drew | apply keep_alloc) | exact HK.out)⟩
                        · rw [if_neg c15] at H
                          have c15b0 : decide (0 < x6_1) = false := decide_eq_false c15
                          clear c15
                          simp only [Option.some.injEq, Prod.mk.injEq] at H
                          obtain ⟨rfl, rfl, rfl⟩ := H
                          go_wp2
                          repeat (go_quiet (fail); try go_wp2)
                          go_ret2
                          exact ⟨by first | rfl | (simp [errW_none, errW_some] <;> rfl) | (simp only [← hji7]; first | rfl | (simp [errW_none, errW_some] <;> rfl)) | (simp [*, errW_none, errW_some] <;> rfl), by repeat (first | (with_reducible first | exact HI0.out | apply IsS118.alloc | apply IsS118.drewN | apply IsS118.drew | apply IsS118.set_1) | exact HI0.out), by repeat (first | (with_reducible first | exact HB.out | apply below_alloc | apply pw_below_drewN | apply below_drew1 | refine below_set ?_ (IsS118.ge HI0.out)) | exact HB.out), by repeat (first | (with_reducible first | exact HK.out | apply KeepBut.set_ | apply keep_drewN | apply keep_drew | apply keep_alloc) | exact HK.out)⟩
              · rw [if_neg c9] at H
                exact absurd H (by simp)
            · rw [if_neg c8] at H
              exact absurd H (by simp)
          · replace c6 := Bool.eq_false_iff.mpr c6
            subst c6
            have H1 : (some (0, 0, s0_1)) = some (r1, r2, r3) := by rw [if_neg (show ¬ (false = true) by decide)] at H; exact H
            clear H
            have H := H1
            clear H1
            simp only [Option.some.injEq, Prod.mk.injEq] at H
            obtain ⟨rfl, rfl, rfl⟩ := H
            go_wp2
            repeat (go_quiet (fail); try go_wp2)
            go_ret2
            exact ⟨by first | rfl | (simp [errW_none, errW_some] <;> rfl) | (simp [*, errW_none, errW_some] <;> rfl), by repeat (first | (with_reducible first | exact HI0.out | apply IsS118.alloc | apply IsS118.drewN | apply IsS118.drew | apply IsS118.set_1) | exact HI0.out), by repeat (first | (with_reducible first | exact HB.out | apply below_alloc | apply pw_below_drewN | apply below_drew1 | refine below_set ?_ (IsS118.ge HI0.out)) | exact HB.out), by repeat (first | (with_reducible first | exact HK.out | apply KeepBut.set_ | apply keep_drewN | apply keep_drew | apply keep_alloc) | exact HK.out)⟩

/-! ### windbreakref09_Reader_Number: function 68 -/
def windbreakref09_Reader_Number.f (k : Nat) (s0_0 : List Int) (s0_1 : Int) (a1 : Int) : Option (Int × Int × Int) := (windbreakref09_Reader_next.f k s0_0 s0_1).bind fun bt153 => (if bt153.2.1 = 0 then (some (0, 13, bt153.2.2)) else (if bt153.1 > a1 then (some (0, 13, bt153.2.2)) else (some (bt153.1, 0, wrap64 (bt153.2.2 + bt153.2.1)))))
theorem windbreakref09_Reader_Number.mono : ∀ a0 a1 a2 k, LeO (windbreakref09_Reader_Number.f k a0 a1 a2) (windbreakref09_Reader_Number.f (k + 1) a0 a1 a2) := by
  intro a0 a1 a2 k
  unfold windbreakref09_Reader_Number.f
  repeat' first
      | (with_reducible exact windbreakref09_Reader_next.mono _ _ _)
      | (with_reducible exact LeO.refl _)
      | (with_reducible exact LeO.none _)
      | (with_reducible refine LeO.ite ?_ ?_)
      | (with_reducible refine LeO.bind ?_ (fun _ => ?_))
      | exact windbreakref09_Reader_next.mono _ _ _
      | exact LeO.none _
      | refine LeO.ite ?_ ?_
      | refine LeO.bind ?_ (fun _ => ?_)
set_option maxHeartbeats 8000000 in
set_option maxRecDepth 100000 in
theorem windbreakref09_Reader_Number.calls (k : Nat) (g : Nat) (s0_0 : List Int) (s0_1 : Int) (a1 : Int) (r1 : Int) (r2 : Int) (r3 : Int) (w0 w : World) (hI : IsS118 w0 w g s0_0 s0_1) (hB : Below w0.heap.size w0 w) (h : windbreakref09_Reader_Number.f k s0_0 s0_1 a1 = some (r1, r2, r3)) :
    Calls Try.prog 68 #[.pointer (some ⟨g, 0, none⟩), .int .u64 a1] w fun e w' => e = .returned (.tuple #[.int .u64 r1, .int .i64 r2]) ∧ IsS118 w0 w' g s0_0 r3 ∧ Below w0.heap.size w0 w' ∧ KeepBut w w' g none := by
  have HI0 := Aside0.mk hI
  have HK := Aside0.mk (KeepBut.refl w g none)
  have HL := Aside0.mk hB.size
  clear hI
  have HW0 := Aside0.mk hB.size
  have HB := Aside0.mk hB
  clear hB
  have H : ((windbreakref09_Reader_next.f k s0_0 s0_1).bind fun bt153 => (if bt153.2.1 = 0 then (some (0, 13, bt153.2.2)) else (if bt153.1 > a1 then (some (0, 13, bt153.2.2)) else (some (bt153.1, 0, wrap64 (bt153.2.2 + bt153.2.1)))))) = some (r1, r2, r3) := h
  clear h
  replace H := Option.bind_eq_some_iff.mp H
  obtain ⟨⟨t153, t154, t155⟩, A30, H⟩ := H
  replace H : (if t154 = 0 then (some (0, 13, t155)) else (if t153 > a1 then (some (0, 13, t155)) else (some (t153, 0, wrap64 (t155 + t154))))) = some (r1, r2, r3) := H
  have A3 := Aside0.mk A30
  clear A30
  by_cases c4 : t154 = 0
  · rw [if_pos c4] at H
    have c4b0 : (t154 == 0) = true := beq_iff_eq.mpr c4
    have c4b1 : (t154 != 0) = false := bne_eq_false_iff_eq.mpr c4
    clear c4
    simp only [Option.some.injEq, Prod.mk.injEq] at H
    obtain ⟨rfl, rfl, rfl⟩ := H
    go_enter Try.func68, Try.ntmps68
    go_wp2_with (first | ((with_reducible refine gate_callee (f := 88) rfl ?_); refine goesL_ (some 10) rfl rfl Try.func88 (by kernel_rfl) rfl #[.pointer (some ⟨g, 0, none⟩)] rfl (by (try simp only [List.map_toArray, List.map_cons, List.map_nil]); first | done | rfl | (simp only [List.length_drop, List.length_take]; rfl)) ?_; (with_reducible refine (windbreakref09_Reader_next.calls k g s0_0 s0_1 t153 t154 t155 w0 _ ?side1 ?side2 A3.out).mono ?_); (case side1 => repeat (first | (with_reducible first | exact HI0.out | apply IsS118.alloc | apply IsS118.drewN | apply IsS118.drew | apply IsS118.set_1) | exact HI0.out)); (case side2 => repeat (first | (with_reducible first | exact HB.out | apply below_alloc | apply pw_below_drewN | apply below_drew1 | refine below_set ?_ (IsS118.ge HI0.out)) | exact HB.out)); rintro e w5 ⟨rfl, hi, hb, hk⟩; refine ⟨_, rfl, ?_⟩; have n0_ := Aside0.mk (KeepBut.trans (by repeat (first | (with_reducible first | exact HK.out | apply KeepBut.set_ | apply keep_drewN | apply keep_drew | apply keep_alloc) | exact HK.out)) hk (.inl rfl)); have n1_ := Aside0.mk (hb); have n2_ := Aside0.mk (hi); clear HK; clear HB; clear HI0; have HK := n0_; have HB := n1_; have HI0 := n2_; clear n0_ n1_ n2_; (try clear hb); (try clear hb2); (try clear hk); (try clear hi)))
    go_ret2
    exact ⟨by first | rfl | (simp [errW_none, errW_some] <;> rfl) | (simp [*, errW_none, errW_some] <;> rfl), by repeat (first | (with_reducible first | exact HI0.out | apply IsS118.alloc | apply IsS118.drewN | apply IsS118.drew | apply IsS118.set_1) | exact HI0.out), by repeat (first | (with_reducible first | exact HB.out | apply below_alloc | apply pw_below_drewN | apply below_drew1 | refine below_set ?_ (IsS118.ge HI0.out)) | exact HB.out), by repeat (first | (with_reducible first | exact HK.out | apply KeepBut.set_ | apply keep_drewN | apply keep_drew | apply keep_alloc) | exact HK.out)⟩
  · rw [if_neg c4] at H
    have c4b0 : (t154 == 0) = false := beq_eq_false_iff_ne.mpr c4
    have c4b1 : (t154 != 0) = true := bne_iff_ne.mpr c4
    by_cases c6 : t153 > a1
    · rw [if_pos c6] at H
      have c6b0 : decide (a1 < t153) = true := decide_eq_true c6
      clear c6
      simp only [Option.some.injEq, Prod.mk.injEq] at H
      obtain ⟨rfl, rfl, rfl⟩ := H
      go_enter Try.func68, Try.ntmps68
      go_wp2_with (first | ((with_reducible refine gate_callee (f := 88) rfl ?_); refine goesL_ (some 10) rfl rfl Try.func88 (by kernel_rfl) rfl #[.pointer (some ⟨g, 0, none⟩)] rfl (by (try simp only [List.map_toArray, List.map_cons, List.map_nil]); first | done | rfl | (simp only [List.length_drop, List.length_take]; rfl)) ?_; (with_reducible refine (windbreakref09_Reader_next.calls k g s0_0 s0_1 t153 t154 t155 w0 _ ?side1 ?side2 A3.out).mono ?_); (case side1 => repeat (first | (with_reducible first | exact HI0.out | apply IsS118.alloc | apply IsS118.drewN | apply IsS118.drew | apply IsS118.set_1) | exact HI0.out)); (case side2 => repeat (first | (with_reducible first | exact HB.out | apply below_alloc | apply pw_below_drewN | apply below_drew1 | refine below_set ?_ (IsS118.ge HI0.out)) | exact HB.out)); rintro e w7 ⟨rfl, hi, hb, hk⟩; refine ⟨_, rfl, ?_⟩; have n0_ := Aside0.mk (KeepBut.trans (by repeat (first | (with_reducible first | exact HK.out | apply KeepBut.set_ | apply keep_drewN | apply keep_drew | apply keep_alloc) | exact HK.out)) hk (.inl rfl)); have n1_ := Aside0.mk (hb); have n2_ := Aside0.mk (hi); clear HK; clear HB; clear HI0; have HK := n0_; have HB := n1_; have HI0 := n2_; clear n0_ n1_ n2_; (try clear hb); (try clear hb2); (try clear hk); (try clear hi)))
      go_ret2
      exact ⟨by first | rfl | (simp [errW_none, errW_some] <;> rfl) | (simp [*, errW_none, errW_some] <;> rfl), by repeat (first | (with_reducible first | exact HI0.out | apply IsS118.alloc | apply IsS118.drewN | apply IsS118.drew | apply IsS118.set_1) | exact HI0.out), by repeat (first | (with_reducible first | exact HB.out | apply below_alloc | apply pw_below_drewN | apply below_drew1 | refine below_set ?_ (IsS118.ge HI0.out)) | exact HB.out), by repeat (first | (with_reducible first | exact HK.out | apply KeepBut.set_ | apply keep_drewN | apply keep_drew | apply keep_alloc) | exact HK.out)⟩
    · rw [if_neg c6] at H
      have c6b0 : decide (a1 < t153) = false := decide_eq_false c6
      clear c6
      simp only [Option.some.injEq, Prod.mk.injEq] at H
      obtain ⟨rfl, rfl, rfl⟩ := H
      go_enter Try.func68, Try.ntmps68
      go_wp2_with (first | ((with_reducible refine gate_callee (f := 88) rfl ?_); refine goesL_ (some 10) rfl rfl Try.func88 (by kernel_rfl) rfl #[.pointer (some ⟨g, 0, none⟩)] rfl (by (try simp only [List.map_toArray, List.map_cons, List.map_nil]); first | done | rfl | (simp only [List.length_drop, List.length_take]; rfl)) ?_; (with_reducible refine (windbreakref09_Reader_next.calls k g s0_0 s0_1 t153 t154 t155 w0 _ ?side1 ?side2 A3.out).mono ?_); (case side1 => repeat (first | (with_reducible first | exact HI0.out | apply IsS118.alloc | apply IsS118.drewN | apply IsS118.drew | apply IsS118.set_1) | exact HI0.out)); (case side2 => repeat (first | (with_reducible first | exact HB.out | apply below_alloc | apply pw_below_drewN | apply below_drew1 | refine below_set ?_ (IsS118.ge HI0.out)) | exact HB.out)); rintro e w8 ⟨rfl, hi, hb, hk⟩; refine ⟨_, rfl, ?_⟩; have n0_ := Aside0.mk (KeepBut.trans (by repeat (first | (with_reducible first | exact HK.out | apply KeepBut.set_ | apply keep_drewN | apply keep_drew | apply keep_alloc) | exact HK.out)) hk (.inl rfl)); have n1_ := Aside0.mk (hb); have n2_ := Aside0.mk (hi); clear HK; clear HB; clear HI0; have HK := n0_; have HB := n1_; have HI0 := n2_; clear n0_ n1_ n2_; (try clear hb); (try clear hb2); (try clear hk); (try clear hi); obtain ⟨ASz9_0, cSz9_0, HGz9, hgz9, HSz9_0⟩ := HI0.out; have hcz9_0 := cellS118_0 HGz9; have hcz9_1 := cellS118_1 HGz9; have hfz9_1 := blk_frozen HGz9 1; clear HGz9 hgz9))
      go_ret2
      exact ⟨by first | rfl | (simp [errW_none, errW_some] <;> rfl) | (simp [*, errW_none, errW_some] <;> rfl), by repeat (first | (with_reducible first | exact HI0.out | apply IsS118.alloc | apply IsS118.drewN | apply IsS118.drew | apply IsS118.set_1) | exact HI0.out), by repeat (first | (with_reducible first | exact HB.out | apply below_alloc | apply pw_below_drewN | apply below_drew1 | refine below_set ?_ (IsS118.ge HI0.out)) | exact HB.out), by repeat (first | (with_reducible first | exact HK.out | apply KeepBut.set_ | apply keep_drewN | apply keep_drew | apply keep_alloc) | exact HK.out)⟩


/-! ### windbreakref09_Reader_Left: function 70 -/
def windbreakref09_Reader_Left.f (s0_0 : List Int) (s0_1 : Int) : Option (Int × Int) := some (wrap64 ((s0_0.length : Int) - s0_1), s0_1)
set_option maxHeartbeats 8000000 in
set_option maxRecDepth 100000 in
theorem windbreakref09_Reader_Left.calls (g : Nat) (s0_0 : List Int) (s0_1 : Int) (r1 : Int) (r2 : Int) (w0 w : World) (hI : IsS118 w0 w g s0_0 s0_1) (hB : Below w0.heap.size w0 w) (h : windbreakref09_Reader_Left.f s0_0 s0_1 = some (r1, r2)) :
    Calls Try.prog 70 #[.pointer (some ⟨g, 0, none⟩)] w fun e w' => e = .returned (.int .i64 r1) ∧ IsS118 w0 w' g s0_0 r2 ∧ Below w0.heap.size w0 w' ∧ KeepBut w w' g none := by
  have HI0 := Aside0.mk hI
  have HK := Aside0.mk (KeepBut.refl w g none)
  have HL := Aside0.mk hB.size
  clear hI
  have HW0 := Aside0.mk hB.size
  have HB := Aside0.mk hB
  clear hB
  have H : (some (wrap64 ((s0_0.length : Int) - s0_1), s0_1)) = some (r1, r2) := h
  clear h
  simp only [Option.some.injEq, Prod.mk.injEq] at H
  obtain ⟨rfl, rfl⟩ := H
  obtain ⟨ASz2_0, cSz2_0, HGz2, hgz2, HSz2_0⟩ := HI0.out
  have hcz2_0 := cellS118_0 HGz2
  have hcz2_1 := cellS118_1 HGz2
  have hfz2_1 := blk_frozen HGz2 1
  clear HGz2 hgz2
  go_enter Try.func70, Try.ntmps70
  go_wp2
  repeat (go_quiet (fail); try go_wp2)
  go_ret
  exact ⟨by first | rfl | (simp [errW_none, errW_some] <;> rfl) | (simp [*, errW_none, errW_some] <;> rfl), by repeat (first | (with_reducible first | exact HI0.out | apply IsS118.alloc | apply IsS118.drewN | apply IsS118.drew | apply IsS118.set_1) | exact HI0.out), by repeat (first | (with_reducible first | exact HB.out | apply below_alloc | apply pw_below_drewN | apply below_drew1 | refine below_set ?_ (IsS118.ge HI0.out)) | exact HB.out), by repeat (first | (with_reducible first | exact HK.out | apply KeepBut.set_ | apply keep_drewN | apply keep_drew | apply keep_alloc) | exact HK.out)⟩


end Go.Proofs.Ytekakngojhnleaa.Rf
