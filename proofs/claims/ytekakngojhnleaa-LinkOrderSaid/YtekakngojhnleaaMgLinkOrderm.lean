/- Parts of the proof of LinkOrder, merged: each is proved for all its inputs. -/
import Derived.Test.YtekakngojhnleaaMgLinkOrderl
import Derived.Laws.Bits128
import Derived.Test.YtekakngojhnleaaMgLinkOrdera
import Derived.WideShapes
/- Links: LinkOrder walked. -/
namespace Go.Proofs.Ytekakngojhnleaa.Wk
open Go.RowKit Go.Maps Go.Proofs.Ytekakngojhnleaa.Mp Go.Proofs.Ytekakngojhnleaa.Mq Go.Proofs.Ytekakngojhnleaa.Lp Go.Proofs.Ytekakngojhnleaa.Lm Go.Proofs.Ytekakngojhnleaa.La Go.Proofs.Ytekakngojhnleaa.Wd Go.Proofs.Ytekakngojhnleaa.We Go.Proofs.Ytekakngojhnleaa.Wf Go.Proofs.Ytekakngojhnleaa.Wg Go.Proofs.Ytekakngojhnleaa.Wh Go.Proofs.Ytekakngojhnleaa.Wi Go.Proofs.Ytekakngojhnleaa.Wj Go.Proofs.Ytekakngojhnleaa.Pr Go.Proofs.YtekakngojhnleaaW.PrintWords Go.Proofs.YtekakngojhnleaaW.PrintLast Go.Proofs.YtekakngojhnleaaW.PrintMore
set_option linter.unusedVariables false
set_option linter.unusedSimpArgs false
variable {w w' : World} {B N g : Nat}

theorem i64_and1 (n : Int) : bits .and .i64 n 1 = n % 2 := by
  have e1 : (BitVec.ofInt 64 1).toNat = 2 ^ 1 - 1 := by decide
  have key : (BitVec.ofInt 64 n &&& BitVec.ofInt 64 1).toNat = (n % ((2 ^ 64 : Nat) : Int)).toNat % 2 ^ 1 := by
    rw [BitVec.toNat_and, BitVec.toNat_ofInt, e1, Nat.and_two_pow_sub_one_eq_mod]
  show IntKind.i64.wrap ((BitVec.ofInt 64 n &&& BitVec.ofInt 64 1).toNat : Nat) = n % 2
  rw [key, IntKind.wrap_i64]
  omega
/-- Any step. -/
theorem play_calls {M : Nat} {σ : Nat → Lk} {ls : Nat → List (List Int)} (W : WQ w B N g σ ls) (h : Rel M σ ls) (hM : M ≤ 1500) (hN : N < maxLen) (h6 : (ls 6).length ≤ 1000000) (h7 : (ls 7).length ≤ 1000000) (d a n : Int) (A : Option Addr) (c : Nat) (l : List Int) (hr : Body w B A l) (hl : l.length ≤ 140737488351232) (hb : ∀ x ∈ l, 0 ≤ x ∧ x < 256) :
    Calls Try.prog 41 #[.pointer (some ⟨g, 0, none⟩), .agg (stepA d a n A l.length c)] w fun e w' => Played w B N g M ls e w' := by
  have ha := i64_and1 a
  rcases (show a % 2 = 0 ∨ a % 2 = 1 by omega) with e | e <;> rw [e] at ha
  · by_cases h0 : d = 0
    · subst h0; exact play0_send W h hM a n ha A c l hr hl hb
    by_cases h1 : d = 1
    · subst h1; exact play0_tick W h a n ha A c _
    by_cases h2 : d = 2
    · subst h2; exact play0_out W h hM h6 a n ha A c _
    by_cases h3 : d = 3
    · subst h3; exact play0_in W h hM hN a n ha A c _
    exact play0_none W h d a n h0 h1 h2 h3 ha A c _
  · by_cases h0 : d = 0
    · subst h0; exact play1_send W h hM a n ha A c l hr hl hb
    by_cases h1 : d = 1
    · subst h1; exact play1_tick W h a n ha A c _
    by_cases h2 : d = 2
    · subst h2; exact play1_out W h hM h7 a n ha A c _
    by_cases h3 : d = 3
    · subst h3; exact play1_in W h hM hN a n ha A c _
    exact play1_none W h d a n h0 h1 h2 h3 ha A c _
/-- A step, as the law reads it. -/
abbrev St := Int × Int × Int × List Int
def kSt : Kd St := Kd.pair (Kd.int .i64) (Kd.pair (Kd.int .i64) (Kd.pair (Kd.int .i64) (Kd.slice 5 (Kd.int .u8))))
def zSt : St := (0, 0, 0, [])
def rdS (xs : List St) (i : Int) : St := xs.getD i.toNat zSt
theorem kSt_open {w : World} {x : St} {cs : List Value} (h : kSt.K w x cs) : ∃ A c, cs = [.int .i64 x.1, .int .i64 x.2.1, .int .i64 x.2.2.1, .slice A x.2.2.2.length c] ∧ x.2.2.2.length ≤ c ∧ (Kd.int .u8).C w A x.2.2.2.length x.2.2.2 := by
  obtain ⟨_, _, rfl, rfl, ⟨_, _, rfl, rfl, ⟨_, _, rfl, rfl, ⟨A, c, rfl, l, g⟩⟩⟩⟩ := h
  exact ⟨A, c, rfl, l, g⟩
theorem at_St {w : World} {A : Option Addr} {n : Nat} {xs : List St} (h : Kd.C kSt w A n xs) (i : Int) (h0 : 0 ≤ i) (h1 : i < n) : ∃ ad A1 c1, A = some ad ∧ w.cell? (ad.add (i.toNat * 4)) = some (.int .i64 (rdS xs i).1) ∧ w.cell? ⟨(ad.add (i.toNat * 4)).block, (ad.add (i.toNat * 4)).off + 1, none⟩ = some (.int .i64 (rdS xs i).2.1) ∧
    w.cell? ⟨(ad.add (i.toNat * 4)).block, (ad.add (i.toNat * 4)).off + 2, none⟩ = some (.int .i64 (rdS xs i).2.2.1) ∧ w.cell? ⟨(ad.add (i.toNat * 4)).block, (ad.add (i.toNat * 4)).off + 3, none⟩ = some (.slice A1 (rdS xs i).2.2.2.length c1) ∧ (Kd.int .u8).C w A1 (rdS xs i).2.2.2.length (rdS xs i).2.2.2 := by
  obtain ⟨ad, c, e, _, hK, hc0⟩ := Kd.C_get h zSt i h0 h1
  have hc : ∀ j u, c[j]? = some u → w.cell? (ad.add (i.toNat * 4 + j)) = some u := hc0
  obtain ⟨A1, c1, rfl, l, g⟩ := kSt_open hK
  exact ⟨ad, A1, c1, e, hc 0 _ rfl, by rw [← add_field _ _ 1 (by omega)]; exact hc 1 _ rfl, by rw [← add_field _ _ 2 (by omega)]; exact hc 2 _ rfl, by rw [← add_field _ _ 3 (by omega)]; exact hc 3 _ rfl, g⟩
def GoodS (x : St) : Prop := x.2.2.2.length ≤ 140737488351232 ∧ ∀ y ∈ x.2.2.2, 0 ≤ y ∧ y < 256
theorem rdS_mem (xs : List St) (j : Nat) (h : j < xs.length) : rdS xs (j : Int) ∈ xs := by
  simp only [rdS, Int.toNat_natCast, List.getD_eq_getElem?_getD, List.getElem?_eq_getElem h, Option.getD_some]
  exact List.getElem_mem h
/-- What holds behind i steps. -/
structure Ord (w wr : World) (g i : Nat) (σ : Nat → Lk) (ls : Nat → List (List Int)) : Prop where
  wq : WQ wr w.heap.size i g σ ls
  rel : Rel i σ ls
  o6 : (ls 6).length ≤ 1000 * i
  o7 : (ls 7).length ≤ 1000 * i
  bl : Below w.heap.size w wr
theorem Ord.play {wr w1 : World} {i : Nat} {σ : Nat → Lk} {ls : Nat → List (List Int)} (h : Ord w wr g i σ ls) {σ' : Nat → Lk} {ls' : Nat → List (List Int)} (h1 : WQ w1 w.heap.size (i + 1) g σ' ls') (h2 : Rel (i + 1) σ' ls') (h3 : Grew ls ls') (h4 : Below w.heap.size wr w1) : Ord w w1 g (i + 1) σ' ls' :=
  ⟨h1, h2, by have := h3.1; have := h.o6; omega, by have := h3.2; have := h.o7; omega, h.bl.trans h4⟩
theorem Ord.begins {wr w1 : World} {i : Nat} {σ : Nat → Lk} {ls : Nat → List (List Int)} (h : Ord w wr g i σ ls) (h1 : WQ w1 w.heap.size i g (told (told σ 0) 1) (toldL (told σ 0) (toldL σ ls 0 4) 1 5)) (h4 : Below w.heap.size wr w1) : Ord w w1 g i (told (told σ 0) 1) (toldL (told σ 0) (toldL σ ls 0 4) 1 5) :=
  ⟨h1, h.rel.tell0.1.tell1.1, h.o6, h.o7, h.bl.trans h4⟩
theorem body_of {xs : List St} {wr : World} {j : Nat} {A1 : Option Addr} (hb : Below w.heap.size w wr) (h : (Kd.int .u8).C w A1 (rdS xs (j : Int)).2.2.2.length (rdS xs (j : Int)).2.2.2) : Body wr w.heap.size A1 (rdS xs (j : Int)).2.2.2 :=
  fun w' h1 _ => Kd.C_below h (hb.trans h1)
theorem meas5 {i : Nat} (h : i < 300) : 300 - (intOf (.int .i64 ((i : Int) + 1))).toNat < 300 - (intOf (.int .i64 (i : Int))).toNat := by
  simp only [intOf]
  omega
set_option maxRecDepth 100000 in
set_option maxHeartbeats 2000000 in
theorem order_no (n : Int) (A : Option Addr) (c k : Nat) (w : World) (hn : n < 1 ∨ 16 < n) :
    Calls Try.prog 12 #[.int .i64 n, .slice A k c] w fun e w' => e = .returned (.bool true) ∧ Below w.heap.size w w' := by
  have HF := Aside0.mk (fresh_no n hn w)
  by_cases h1 : n < 1
  · have hd : decide (n < 1) = true := decide_eq_true h1
    clear hn h1
    go_enter Try.func12, Try.ntmps12
    go_wp2_with fail
    refine HF.out.mono ?_
    rintro e w1 ⟨rfl, hb⟩
    have HB := Aside0.mk hb
    clear hb
    go_wp2_with fail
    go_ret
    exact ⟨rfl, HB.out⟩
  · have hd : decide (n < 1) = false := decide_eq_false h1
    have hd2 : decide (16 < n) = true := decide_eq_true (by omega)
    clear hn h1
    go_enter Try.func12, Try.ntmps12
    go_wp2_with fail
    refine HF.out.mono ?_
    rintro e w1 ⟨rfl, hb⟩
    have HB := Aside0.mk hb
    clear hb
    go_wp2_with fail
    go_ret
    exact ⟨rfl, HB.out⟩
set_option maxRecDepth 100000 in
set_option maxHeartbeats 2000000 in
theorem order_nil (m : Nat) (h0 : 1 ≤ m) (h1 : m ≤ 16) (A : Option Addr) (c : Nat) (w : World) :
    Calls Try.prog 12 #[.int .i64 (m : Int), .slice A 0 c] w fun e w' => e = .returned (.bool true) ∧ Below w.heap.size w w' := by
  have HF := Aside0.mk (fresh_yes m h0 h1 w)
  clear h0 h1
  go_enter Try.func12, Try.ntmps12
  go_wp2_with fail
  refine HF.out.mono ?_
  rintro e w1 ⟨rfl, _, hb⟩
  have H0 := Aside0.mk hb
  clear hb
  go_wp2_with fail
  go_loopw [7, 8] (fun v7 v8 wr => ∃ b : Value, v7 = .int .i64 0 ∧ v8 = b ∧ Aside0 (Below w.heap.size w wr)) (fun v7 _ _ => 300 - (intOf v7).toNat)
  case atStart => exact ⟨_, rfl, rfl, H0⟩
  case round =>
    obtain ⟨b, rfl, rfl, HO⟩ := hrel
    clear H0
    go_wp2_with fail
    go_ret
    exact ⟨rfl, HO.out⟩
set_option maxRecDepth 100000 in
set_option maxHeartbeats 2000000 in
theorem order_some (m : Nat) (h0 : 1 ≤ m) (h1 : m ≤ 16) (ad : Addr) (c : Nat) (xs : List St) (w : World) (hr : Kd.C kSt w (some ad) xs.length xs) (hl : xs.length ≤ 140737488351232) (hg : ∀ x ∈ xs, GoodS x) :
    Calls Try.prog 12 #[.int .i64 (m : Int), .slice (some ad) xs.length c] w fun e w' => e = .returned (.bool true) ∧ Below w.heap.size w w' := by
  have HR := Aside0.mk hr
  have HG := Aside0.mk hg
  have HF := Aside0.mk (fresh_yes m h0 h1 w)
  have HM := Aside0.mk (And.intro h0 h1)
  clear hr hg h0 h1
  go_enter Try.func12, Try.ntmps12
  go_wp2_with fail
  refine HF.out.mono ?_
  rintro e w1 ⟨rfl, ⟨p, S, hwp⟩, hb⟩
  have H0 := Aside0.mk (show Ord w w1 w.heap.size 0 (fun _ => newL m) (fun _ => []) from ⟨⟨p, S, _, _, hwp⟩, ⟨fresh_two HM.out.1 HM.out.2, rfl, rfl, rfl, rfl⟩, Nat.zero_le _, Nat.zero_le _, hb⟩)
  clear hwp hb
  go_wp2_with fail
  go_loopw [7, 8] (fun v7 v8 wr => ∃ (i : Nat) (b : Value) (σ : Nat → Lk) (ls : Nat → List (List Int)), v7 = .int .i64 (i : Int) ∧ v8 = b ∧ i ≤ 300 ∧ Aside0 (Ord w wr w.heap.size i σ ls)) (fun v7 _ _ => 300 - (intOf v7).toNat)
  case atStart => exact ⟨0, _, _, _, rfl, rfl, by omega, H0⟩
  case round =>
    obtain ⟨i, b, σ, ls, rfl, rfl, hi, HO⟩ := hrel
    clear H0
    by_cases hc1 : i < xs.length
    · have hd1 : decide ((i : Int) < (xs.length : Int)) = true := decide_eq_true (by omega)
      have hd4 : decide (i < xs.length) = true := decide_eq_true hc1
      by_cases hc2 : i < 300
      · have hd2 : decide ((i : Int) < 300) = true := decide_eq_true (by omega)
        have hx := HG.out _ (rdS_mem xs i hc1)
        obtain ⟨_, A1, c1, hA, q0, q1, q2, q3, hbd⟩ := at_St HR.out (i : Int) (by omega) (by omega)
        cases hA
        rw [Int.toNat_natCast] at q0 q1 q2 q3
        have HBO := Aside0.mk (body_of HO.out.bl hbd)
        have r0 := pw_cell_below HO.out.bl q0
        have r1 := pw_cell_below HO.out.bl q1
        have r2 := pw_cell_below HO.out.bl q2
        have r3 := pw_cell_below HO.out.bl q3
        obtain ⟨x, hxx⟩ : ∃ x, x = rdS xs (i : Int) := ⟨_, rfl⟩
        rw [← hxx] at r0 r1 r2 r3 hx HBO
        have HPL := Aside0.mk (play_calls HO.out.wq HO.out.rel (by omega) (by unfold maxLen; omega) (by have := HO.out.o6; omega) (by have := HO.out.o7; omega) x.1 x.2.1 x.2.2.1 A1 c1 x.2.2.2 HBO.out hx.1 hx.2)
        unfold stepA at HPL
        have hil : (i : Int) < (xs.length : Int) := by omega
        have HC2 := Aside0.mk hc2
        have hwi : wrap64 ((i : Int) + 1) = (i : Int) + 1 := by unfold wrap64; omega
        have hd3 : decide (i < 300) = true := decide_eq_true hc2
        clear q0 q1 q2 q3 hbd hx hxx hc1 hc2
        go_wp2_with fail
        refine HPL.out.mono ?_
        rintro e w2 ⟨rfl, ⟨σ', ls', hw2, hr2, hg2⟩, hb2⟩
        have HO2 := Aside0.mk (HO.out.play hw2 hr2 hg2 hb2)
        clear hw2 hr2 hg2 hb2 r0 r1 r2 r3
        have HBG := Aside0.mk (begins_true HO2.out.wq HO2.out.rel (by have := HC2.out; omega))
        go_wp2_with fail
        refine HBG.out.mono ?_
        rintro e w3 ⟨rfl, hw3, hb3⟩
        have HO3 := Aside0.mk (HO2.out.begins hw3 hb3)
        clear hw3 hb3
        go_wp2_with fail
        go_roundw
        case rel => exact ⟨i + 1, _, _, _, by go_num, rfl, HC2.out, HO3⟩
        case measure => exact meas5 HC2.out
      · have hd2 : decide ((i : Int) < 300) = false := decide_eq_false (by omega)
        have hd3 : decide (i < 300) = false := decide_eq_false hc2
        clear hc1 hc2
        go_wp2_with fail
        go_ret
        exact ⟨rfl, HO.out.bl⟩
    · have hd1 : decide ((i : Int) < (xs.length : Int)) = false := decide_eq_false (by omega)
      have hd4 : decide (i < xs.length) = false := decide_eq_false hc1
      clear hc1
      go_wp2_with fail
      go_ret
      exact ⟨rfl, HO.out.bl⟩
theorem order_calls (n : Int) (A : Option Addr) (c : Nat) (xs : List St) (w : World) (hr : Kd.C kSt w A xs.length xs) (hl : xs.length ≤ 140737488351232) (hg : ∀ x ∈ xs, GoodS x) :
    Calls Try.prog 12 #[.int .i64 n, .slice A xs.length c] w fun e w' => e = .returned (.bool true) ∧ Below w.heap.size w w' := by
  by_cases hn : n < 1 ∨ 16 < n
  · exact order_no n A c _ w hn
  · obtain ⟨m, rfl⟩ : ∃ m : Nat, n = (m : Int) := ⟨n.toNat, by omega⟩
    rcases Nat.eq_zero_or_pos xs.length with h | h
    · rw [h]; exact order_nil m (by omega) (by omega) A c w
    · obtain ⟨ad, rfl, _⟩ := hr.2.2 h
      exact order_some m (by omega) (by omega) ad c xs w hr hl hg
end Go.Proofs.Ytekakngojhnleaa.Wk
/- Links: how steps are opened as an argument. -/
namespace Go.Proofs.Ytekakngojhnleaa.Wo
open Go.ChangeShapes Go.WideShapes Go.RowKit Go.Proofs.YtekakngojhnleaaW.PrintWords Go.Proofs.Ytekakngojhnleaa Go.Proofs.Ytekakngojhnleaa.Wk
set_option linter.unusedVariables false

def goodT (x : St) : Prop := (Lit.int .i64 x.1).wf = true ∧ (Lit.int .i64 x.2.1).wf = true ∧ (Lit.int .i64 x.2.2.1).wf = true ∧ (x.2.2.2.length * 1 ≤ reachBytes ∧ ∀ y ∈ x.2.2.2, (Lit.int .u8 y).wf = true)
theorem opens_step : Opn.Opens Try.prog 62 kSt goodT :=
  Opn.opens_struct Try.underlying62 (Opn.Flds.more (Opn.opens_int Try.underlying3) rfl (by kernel_rfl) (Opn.Flds.more (Opn.opens_int Try.underlying3) rfl (by kernel_rfl) (Opn.Flds.more (Opn.opens_int Try.underlying3) rfl (by kernel_rfl)
    (Opn.Flds.one (Opn.opens_slice (Opn.opens_int Try.underlying5) Try.underlying30 (by kernel_rfl) 5 (by kernel_rfl)) rfl (by kernel_rfl))))) (by kernel_rfl)
/-- The steps, as they lie. -/
structure IsSteps (W : World) (A : Option Addr) (c : Nat) (xs : List St) : Prop where
  reads : Kd.C kSt W A xs.length xs
  len : xs.length ≤ 140737488351232
  good : ∀ x ∈ xs, GoodS x
set_option maxRecDepth 100000 in
theorem open_steps (j : Nat) {H : Type} {enc : TypeId × Value → H} {W : World} {base r0 : Nat} {r : Reach} {spare : Nat → Bool} {held : Bool} {ts : List TypeId} {ds : List (DataW H)} {dd : DataW H} {p : List MemPlace} (hj : ts[j]? = some 60) (hd : ds[j]? = some dd)
    {v : Value} (hv : Value.okWide Try.prog W r r0 60 v) (h : DataW.Trod enc Try.prog W base spare held 60 v dd p) (hsz : (DataW.weightsEach Try.prog ts ds).all (· ≤ reachBytes) = true) :
    ∃ x : List St × Option Addr × Nat, v = .slice x.2.1 x.1.length x.2.2 ∧ IsSteps W x.2.1 x.2.2 x.1 := by
  obtain ⟨A, len, cap, rfl⟩ := okWide_slice Try.underlying60 hv
  obtain ⟨fuel, hf⟩ := h
  obtain ⟨xs, ⟨A', c', he, hl, hr⟩, h1, h2⟩ := Opn.opens_slice opens_step Try.underlying60 (by kernel_rfl) 62 (B := 48) (by kernel_rfl) hf (fun b hb => by
    have := List.all_eq_true.1 hsz _ (DataW.weights_mem_each hj hd b hb)
    simpa using this)
  simp [Value.cells] at he
  obtain ⟨rfl, rfl, rfl⟩ := he
  refine ⟨(xs, A, cap), rfl, hr, ?_, fun x hx => ?_⟩
  · have h3 : xs.length * 48 ≤ 140737488351232 := h1
    show xs.length ≤ _
    omega
  · have h3 := h2 x hx
    have h4 : x.2.2.2.length * 1 ≤ 140737488351232 := h3.2.2.2.1
    exact ⟨by omega, _root_.Go.Proofs.Ytekakngojhnleaa.Rd.u8_bytes h3.2.2.2.2⟩
theorem order_row (n : Int) (x : List St × Option Addr × Nat) (W : World) (hn : (Lit.int .i64 n).wf = true) (hx : IsSteps W x.2.1 x.2.2 x.1) :
    Calls Try.prog 12 #[.int .i64 n, .slice x.2.1 x.1.length x.2.2] W fun e w' => e = .returned (.bool true) ∧ Below W.heap.size W w' :=
  order_calls _ _ _ _ W hx.reads hx.len hx.good
end Go.Proofs.Ytekakngojhnleaa.Wo
