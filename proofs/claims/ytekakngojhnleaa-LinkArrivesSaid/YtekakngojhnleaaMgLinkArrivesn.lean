/- Parts of the proof of LinkArrives, merged: each is proved for all its inputs. -/
import Derived.Test.YtekakngojhnleaaMgLinkArrivesm
import Derived.Laws.Bits128
import Derived.Test.YtekakngojhnleaaMgLinkArrivesi
import Derived.Lib.SlBytesConst
/- Links: LinkOrder walked. -/
namespace Go.Proofs.Ytekakngojhnleaa.Wk
open Go.RowKit Go.Maps Go.Proofs.Ytekakngojhnleaa.Mp Go.Proofs.Ytekakngojhnleaa.Mq Go.Proofs.Ytekakngojhnleaa.Lp Go.Proofs.Ytekakngojhnleaa.Lm Go.Proofs.Ytekakngojhnleaa.La Go.Proofs.Ytekakngojhnleaa.Wd Go.Proofs.Ytekakngojhnleaa.We Go.Proofs.Ytekakngojhnleaa.Wf Go.Proofs.Ytekakngojhnleaa.Wg Go.Proofs.Ytekakngojhnleaa.Wh Go.Proofs.Ytekakngojhnleaa.Wi Go.Proofs.Ytekakngojhnleaa.Wj Go.Proofs.Ytekakngojhnleaa.Pr Go.Proofs.YtekakngojhnleaaW.PrintWords Go.Proofs.YtekakngojhnleaaW.PrintLast Go.Proofs.YtekakngojhnleaaW.PrintMore
set_option linter.unusedVariables false
set_option linter.unusedSimpArgs false
variable {w w' : World} {B N g : Nat}

theorem i64_and1 (n : Int) : bits .and .i64 n 1 = n % 2 := by
 have e1 : (BitVec.ofInt 64 1).toNat = 2 ^ 1 - 1 := by decide
 have key : (BitVec.ofInt 64 n &&& BitVec.ofInt 64 1).toNat = (n % ((2 ^ 64 : Nat) : Int)).toNat % 2 ^ 1 := by
  rw [BitVec.toNat_and, BitVec.toNat_ofInt, e1, Nat.and_two_pow_sub_one_eq_mod]
 show IntKind.i64.wrap ((BitVec.ofInt 64 n &&& BitVec.ofInt 64 1).toNat : Nat) = n % 2
 rw [key, IntKind.wrap_i64]
 omega
/-- Any step. -/
theorem play_calls {M : Nat} {σ : Nat → Lk} {ls : Nat → List (List Int)} (W : WQ w B N g σ ls) (h : Rel M σ ls) (hM : M ≤ 1500) (hN : N < maxLen) (h6 : (ls 6).length ≤ 1000000) (h7 : (ls 7).length ≤ 1000000) (d a n : Int) (A : Option Addr) (c : Nat) (l : List Int) (hr : Body w B A l) (hl : l.length ≤ 140737488351232) (hb : ∀ x ∈ l, 0 ≤ x ∧ x < 256) :
  Calls Try.prog 41 #[.pointer (some ⟨g, 0, none⟩), .agg (stepA d a n A l.length c)] w fun e w' => Played w B N g M ls e w' := by
 have ha := i64_and1 a
 rcases (show a % 2 = 0 ∨ a % 2 = 1 by omega) with e | e <;> rw [e] at ha
 ·
  by_cases h0 : d = 0
  ·
   subst h0; exact play0_send W h hM a n ha A c l hr hl hb
  by_cases h1 : d = 1
  ·
   subst h1; exact play0_tick W h a n ha A c _
  by_cases h2 : d = 2
  ·
   subst h2; exact play0_out W h hM h6 a n ha A c _
  by_cases h3 : d = 3
  ·
   subst h3; exact play0_in W h hM hN a n ha A c _
  exact play0_none W h d a n h0 h1 h2 h3 ha A c _
 ·
  by_cases h0 : d = 0
  ·
   subst h0; exact play1_send W h hM a n ha A c l hr hl hb
  by_cases h1 : d = 1
  ·
   subst h1; exact play1_tick W h a n ha A c _
  by_cases h2 : d = 2
  ·
   subst h2; exact play1_out W h hM h7 a n ha A c _
  by_cases h3 : d = 3
  ·
   subst h3; exact play1_in W h hM hN a n ha A c _
  exact play1_none W h d a n h0 h1 h2 h3 ha A c _
/-- A step, as the law reads it. -/
abbrev St := Int × Int × Int × List Int
def kSt : Kd St := Kd.pair (Kd.int .i64) (Kd.pair (Kd.int .i64) (Kd.pair (Kd.int .i64) (Kd.slice 5 (Kd.int .u8))))
def zSt : St := (0, 0, 0, [])
def rdS (xs : List St) (i : Int) : St := xs.getD i.toNat zSt
theorem kSt_open {w : World} {x : St} {cs : List Value} (h : kSt.K w x cs) : ∃ A c, cs = [.int .i64 x.1, .int .i64 x.2.1, .int .i64 x.2.2.1, .slice A x.2.2.2.length c] ∧ x.2.2.2.length ≤ c ∧ (Kd.int .u8).C w A x.2.2.2.length x.2.2.2 := by
 obtain ⟨_, _, rfl, rfl, ⟨_, _, rfl, rfl, ⟨_, _, rfl, rfl, ⟨A, c, rfl, l, g⟩⟩⟩⟩ := h
 exact ⟨A, c, rfl, l, g⟩
theorem at_St {w : World} {A : Option Addr} {n : Nat} {xs : List St} (h : Kd.C kSt w A n xs) (i : Int) (h0 : 0 ≤ i) (h1 : i < n) : ∃ ad A1 c1, A = some ad ∧ w.cell? (ad.add (i.toNat * 4)) = some (.int .i64 (rdS xs i).1) ∧ w.cell? ⟨(ad.add (i.toNat * 4)).block, (ad.add (i.toNat * 4)).off + 1, none⟩ = some (.int .i64 (rdS xs i).2.1) ∧
  w.cell? ⟨(ad.add (i.toNat * 4)).block, (ad.add (i.toNat * 4)).off + 2, none⟩ = some (.int .i64 (rdS xs i).2.2.1) ∧ w.cell? ⟨(ad.add (i.toNat * 4)).block, (ad.add (i.toNat * 4)).off + 3, none⟩ = some (.slice A1 (rdS xs i).2.2.2.length c1) ∧ (Kd.int .u8).C w A1 (rdS xs i).2.2.2.length (rdS xs i).2.2.2 := by
 obtain ⟨ad, c, e, _, hK, hc0⟩ := Kd.C_get h zSt i h0 h1
 have hc : ∀ j u, c[j]? = some u → w.cell? (ad.add (i.toNat * 4 + j)) = some u := hc0
 obtain ⟨A1, c1, rfl, l, g⟩ := kSt_open hK
 exact ⟨ad, A1, c1, e, hc 0 _ rfl, by rw [← add_field _ _ 1 (by omega)]; exact hc 1 _ rfl, by rw [← add_field _ _ 2 (by omega)]; exact hc 2 _ rfl, by rw [← add_field _ _ 3 (by omega)]; exact hc 3 _ rfl, g⟩
def GoodS (x : St) : Prop := x.2.2.2.length ≤ 140737488351232 ∧ ∀ y ∈ x.2.2.2, 0 ≤ y ∧ y < 256
theorem rdS_mem (xs : List St) (j : Nat) (h : j < xs.length) : rdS xs (j : Int) ∈ xs := by
 simp only [rdS, Int.toNat_natCast, List.getD_eq_getElem?_getD, List.getElem?_eq_getElem h, Option.getD_some]
 exact List.getElem_mem h
/-- What holds behind i steps. -/
structure Ord (w wr : World) (g i : Nat) (σ : Nat → Lk) (ls : Nat → List (List Int)) : Prop where
 wq : WQ wr w.heap.size i g σ ls
 rel : Rel i σ ls
 o6 : (ls 6).length ≤ 1000 * i
 o7 : (ls 7).length ≤ 1000 * i
 bl : Below w.heap.size w wr
theorem Ord.play {wr w1 : World} {i : Nat} {σ : Nat → Lk} {ls : Nat → List (List Int)} (h : Ord w wr g i σ ls) {σ' : Nat → Lk} {ls' : Nat → List (List Int)} (h1 : WQ w1 w.heap.size (i + 1) g σ' ls') (h2 : Rel (i + 1) σ' ls') (h3 : Grew ls ls') (h4 : Below w.heap.size wr w1) : Ord w w1 g (i + 1) σ' ls' :=
 ⟨h1, h2, by have := h3.1; have := h.o6; omega, by have := h3.2; have := h.o7; omega, h.bl.trans h4⟩
theorem Ord.begins {wr w1 : World} {i : Nat} {σ : Nat → Lk} {ls : Nat → List (List Int)} (h : Ord w wr g i σ ls) (h1 : WQ w1 w.heap.size i g (told (told σ 0) 1) (toldL (told σ 0) (toldL σ ls 0 4) 1 5)) (h4 : Below w.heap.size wr w1) : Ord w w1 g i (told (told σ 0) 1) (toldL (told σ 0) (toldL σ ls 0 4) 1 5) :=
 ⟨h1, h.rel.tell0.1.tell1.1, h.o6, h.o7, h.bl.trans h4⟩
theorem body_of {xs : List St} {wr : World} {j : Nat} {A1 : Option Addr} (hb : Below w.heap.size w wr) (h : (Kd.int .u8).C w A1 (rdS xs (j : Int)).2.2.2.length (rdS xs (j : Int)).2.2.2) : Body wr w.heap.size A1 (rdS xs (j : Int)).2.2.2 :=
 fun w' h1 _ => Kd.C_below h (hb.trans h1)
theorem meas5 {i : Nat} (h : i < 300) : 300 - (intOf (.int .i64 ((i : Int) + 1))).toNat < 300 - (intOf (.int .i64 (i : Int))).toNat := by
 simp only [intOf]
 omega
set_option maxRecDepth 100000 in
set_option maxHeartbeats 2000000 in
theorem order_no (n : Int) (A : Option Addr) (c k : Nat) (w : World) (hn : n < 1 ∨ 16 < n) :
  Calls Try.prog 12 #[.int .i64 n, .slice A k c] w fun e w' => e = .returned (.bool true) ∧ Below w.heap.size w w' := by
 have HF := Aside0.mk (fresh_no n hn w)
 by_cases h1 : n < 1
 ·
  have hd : decide (n < 1) = true := decide_eq_true h1
  clear hn h1
  go_enter Try.func12, Try.ntmps12
  go_wp2_with fail
  refine HF.out.mono ?_
  rintro e w1 ⟨rfl, hb⟩
  have HB := Aside0.mk hb
  clear hb
  go_wp2_with fail
  go_ret
  exact ⟨rfl, HB.out⟩
 ·
  have hd : decide (n < 1) = false := decide_eq_false h1
  have hd2 : decide (16 < n) = true := decide_eq_true (by omega)
  clear hn h1
  go_enter Try.func12, Try.ntmps12
  go_wp2_with fail
  refine HF.out.mono ?_
  rintro e w1 ⟨rfl, hb⟩
  have HB := Aside0.mk hb
  clear hb
  go_wp2_with fail
  go_ret
  exact ⟨rfl, HB.out⟩
set_option maxRecDepth 100000 in
set_option maxHeartbeats 2000000 in
theorem order_nil (m : Nat) (h0 : 1 ≤ m) (h1 : m ≤ 16) (A : Option Addr) (c : Nat) (w : World) :
  Calls Try.prog 12 #[.int .i64 (m : Int), .slice A 0 c] w fun e w' => e = .returned (.bool true) ∧ Below w.heap.size w w' := by
 have HF := Aside0.mk (fresh_yes m h0 h1 w)
 clear h0 h1
 go_enter Try.func12, Try.ntmps12
 go_wp2_with fail
 refine HF.out.mono ?_
 rintro e w1 ⟨rfl, _, hb⟩
 have H0 := Aside0.mk hb
 clear hb
 go_wp2_with fail
 go_loopw [7, 8] (fun v7 v8 wr => ∃ b : Value, v7 = .int .i64 0 ∧ v8 = b ∧ Aside0 (Below w.heap.size w wr)) (fun v7 _ _ => 300 - (intOf v7).toNat)
 case atStart => exact ⟨_, rfl, rfl, H0⟩
 case round =>
  obtain ⟨b, rfl, rfl, HO⟩ := hrel
  clear H0
  go_wp2_with fail
  go_ret
  exact ⟨rfl, HO.out⟩
set_option maxRecDepth 100000 in
set_option maxHeartbeats 2000000 in
theorem order_some (m : Nat) (h0 : 1 ≤ m) (h1 : m ≤ 16) (ad : Addr) (c : Nat) (xs : List St) (w : World) (hr : Kd.C kSt w (some ad) xs.length xs) (hl : xs.length ≤ 140737488351232) (hg : ∀ x ∈ xs, GoodS x) :
  Calls Try.prog 12 #[.int .i64 (m : Int), .slice (some ad) xs.length c] w fun e w' => e = .returned (.bool true) ∧ Below w.heap.size w w' := by
 have HR := Aside0.mk hr
 have HG := Aside0.mk hg
 have HF := Aside0.mk (fresh_yes m h0 h1 w)
 have HM := Aside0.mk (And.intro h0 h1)
 clear hr hg h0 h1
 go_enter Try.func12, Try.ntmps12
 go_wp2_with fail
 refine HF.out.mono ?_
 rintro e w1 ⟨rfl, ⟨p, S, hwp⟩, hb⟩
 have H0 := Aside0.mk (show Ord w w1 w.heap.size 0 (fun _ => newL m) (fun _ => []) from ⟨⟨p, S, _, _, hwp⟩, ⟨fresh_two HM.out.1 HM.out.2, rfl, rfl, rfl, rfl⟩, Nat.zero_le _, Nat.zero_le _, hb⟩)
 clear hwp hb
 go_wp2_with fail
 go_loopw [7, 8] (fun v7 v8 wr => ∃ (i : Nat) (b : Value) (σ : Nat → Lk) (ls : Nat → List (List Int)), v7 = .int .i64 (i : Int) ∧ v8 = b ∧ i ≤ 300 ∧ Aside0 (Ord w wr w.heap.size i σ ls)) (fun v7 _ _ => 300 - (intOf v7).toNat)
 case atStart => exact ⟨0, _, _, _, rfl, rfl, by omega, H0⟩
 case round =>
  obtain ⟨i, b, σ, ls, rfl, rfl, hi, HO⟩ := hrel
  clear H0
  by_cases hc1 : i < xs.length
  ·
   have hd1 : decide ((i : Int) < (xs.length : Int)) = true := decide_eq_true (by omega)
   have hd4 : decide (i < xs.length) = true := decide_eq_true hc1
   by_cases hc2 : i < 300
   ·
    have hd2 : decide ((i : Int) < 300) = true := decide_eq_true (by omega)
    have hx := HG.out _ (rdS_mem xs i hc1)
    obtain ⟨_, A1, c1, hA, q0, q1, q2, q3, hbd⟩ := at_St HR.out (i : Int) (by omega) (by omega)
    cases hA
    rw [Int.toNat_natCast] at q0 q1 q2 q3
    have HBO := Aside0.mk (body_of HO.out.bl hbd)
    have r0 := pw_cell_below HO.out.bl q0
    have r1 := pw_cell_below HO.out.bl q1
    have r2 := pw_cell_below HO.out.bl q2
    have r3 := pw_cell_below HO.out.bl q3
    obtain ⟨x, hxx⟩ : ∃ x, x = rdS xs (i : Int) := ⟨_, rfl⟩
    rw [← hxx] at r0 r1 r2 r3 hx HBO
    have HPL := Aside0.mk (play_calls HO.out.wq HO.out.rel (by omega) (by unfold maxLen; omega) (by have := HO.out.o6; omega) (by have := HO.out.o7; omega) x.1 x.2.1 x.2.2.1 A1 c1 x.2.2.2 HBO.out hx.1 hx.2)
    unfold stepA at HPL
    have hil : (i : Int) < (xs.length : Int) := by omega
    have HC2 := Aside0.mk hc2
    have hwi : wrap64 ((i : Int) + 1) = (i : Int) + 1 := by unfold wrap64; omega
    have hd3 : decide (i < 300) = true := decide_eq_true hc2
    clear q0 q1 q2 q3 hbd hx hxx hc1 hc2
    go_wp2_with fail
    refine HPL.out.mono ?_
    rintro e w2 ⟨rfl, ⟨σ', ls', hw2, hr2, hg2⟩, hb2⟩
    have HO2 := Aside0.mk (HO.out.play hw2 hr2 hg2 hb2)
    clear hw2 hr2 hg2 hb2 r0 r1 r2 r3
    have HBG := Aside0.mk (begins_true HO2.out.wq HO2.out.rel (by have := HC2.out; omega))
    go_wp2_with fail
    refine HBG.out.mono ?_
    rintro e w3 ⟨rfl, hw3, hb3⟩
    have HO3 := Aside0.mk (HO2.out.begins hw3 hb3)
    clear hw3 hb3
    go_wp2_with fail
    go_roundw
    case rel => exact ⟨i + 1, _, _, _, by go_num, rfl, HC2.out, HO3⟩
    case measure => exact meas5 HC2.out
   ·
    have hd2 : decide ((i : Int) < 300) = false := decide_eq_false (by omega)
    have hd3 : decide (i < 300) = false := decide_eq_false hc2
    clear hc1 hc2
    go_wp2_with fail
    go_ret
    exact ⟨rfl, HO.out.bl⟩
  ·
   have hd1 : decide ((i : Int) < (xs.length : Int)) = false := decide_eq_false (by omega)
   have hd4 : decide (i < xs.length) = false := decide_eq_false hc1
   clear hc1
   go_wp2_with fail
   go_ret
   exact ⟨rfl, HO.out.bl⟩
theorem order_calls (n : Int) (A : Option Addr) (c : Nat) (xs : List St) (w : World) (hr : Kd.C kSt w A xs.length xs) (hl : xs.length ≤ 140737488351232) (hg : ∀ x ∈ xs, GoodS x) :
  Calls Try.prog 12 #[.int .i64 n, .slice A xs.length c] w fun e w' => e = .returned (.bool true) ∧ Below w.heap.size w w' := by
 by_cases hn : n < 1 ∨ 16 < n
 ·
  exact order_no n A c _ w hn
 ·
  obtain ⟨m, rfl⟩ : ∃ m : Nat, n = (m : Int) := ⟨n.toNat, by omega⟩
  rcases Nat.eq_zero_or_pos xs.length with h | h
  ·
   rw [h]; exact order_nil m (by omega) (by omega) A c w
  ·
   obtain ⟨ad, rfl, _⟩ := hr.2.2 h
   exact order_some m (by omega) (by omega) ad c xs w hr hl hg
end Go.Proofs.Ytekakngojhnleaa.Wk
/- Links: LinkArrives: frames are carried over, round by round. -/
namespace Go.Proofs.Ytekakngojhnleaa.Wl
open Go.RowKit Go.Maps Go.Proofs.Ytekakngojhnleaa.Mp Go.Proofs.Ytekakngojhnleaa.Mq Go.Proofs.Ytekakngojhnleaa.Lp Go.Proofs.Ytekakngojhnleaa.Lm Go.Proofs.Ytekakngojhnleaa.La Go.Proofs.Ytekakngojhnleaa.Lb Go.Proofs.Ytekakngojhnleaa.Le Go.Proofs.Ytekakngojhnleaa.Ow Go.Proofs.Ytekakngojhnleaa.Wd Go.Proofs.Ytekakngojhnleaa.We Go.Proofs.Ytekakngojhnleaa.Wf Go.Proofs.Ytekakngojhnleaa.Wg Go.Proofs.Ytekakngojhnleaa.Wh Go.Proofs.Ytekakngojhnleaa.Wi Go.Proofs.Ytekakngojhnleaa.Wj Go.Proofs.Ytekakngojhnleaa.Wk Go.Proofs.Ytekakngojhnleaa.Pr Go.Proofs.Ytekakngojhnleaa.Pq Go.Proofs.YtekakngojhnleaaW.PrintWords Go.Proofs.YtekakngojhnleaaW.PrintLast Go.Proofs.YtekakngojhnleaaW.PrintMore
set_option linter.unusedVariables false
set_option linter.unusedSimpArgs false
variable {w w' : World} {B N g : Nat}

/-- What stands while the frames fs, in the slice v5, are carried to end o: j of them have been. -/
structure Car (wr : World) (B N g M : Nat) (σ : Nat → Lk) (ls : Nat → List (List Int)) (o : Nat) (v5 : Value) (hs5 : List Hd) (fs : List (List Int)) (j : Nat) : Prop where
 wp : ∃ p S v h, WP wr B (N + j) g p S (Wd.upd σ o (dels (σ o) (fs.take j))) v h ls ∧ ∀ k, v5.ownBlock = some k → ¬ S o k ∧ k ≠ g
 rel : Rel M (Wd.upd σ o (dels (σ o) (fs.take j))) ls
 q : kH.Q 30 wr B (fun k => some k = v5.ownBlock) v5 hs5
 b : Bods wr B hs5 fs
 sub : ∀ f ∈ fs, f ∈ ls (7 - o)
theorem dels_next (b : Lk) (fs : List (List Int)) {j : Nat} (h : j < fs.length) : dels b (fs.take (j + 1)) = (inL (dels b (fs.take j)) fs[j]).2 := by
 rw [List.take_add_one, List.getElem?_eq_getElem h]
 unfold dels
 rw [List.foldl_append]
 rfl
section
variable {wr w1 : World} {M : Nat} {σ : Nat → Lk} {ls : Nat → List (List Int)} {v5 : Value} {hs5 : List Hd} {fs : List (List Int)} {j : Nat}
/-- One frame more has come to end o. -/
theorem Car.next {o : Nat} (ho : o < 2) (C : Car wr B N g M σ ls o v5 hs5 fs j) {p : Nat → Nat} {S : Nat → Nat → Prop} {v : Nat → Value} {h : Nat → List Hd} (W : WP wr B (N + j) g p S (Wd.upd σ o (dels (σ o) (fs.take j))) v h ls) (hd : ∀ k, v5.ownBlock = some k → ¬ S o k ∧ k ≠ g) (hj : j < fs.length) {S' : Nat → Prop}
  (hl : LP w1 B (N + j + 1) S' (p o) (inL (dels (σ o) (fs.take j)) fs[j]).2) (hf : FrL B (S o) S' wr w1) (hR : Rel M (Wd.upd (Wd.upd σ o (dels (σ o) (fs.take j))) o (inL (dels (σ o) (fs.take j)) fs[j]).2) ls) : Car w1 B N g M σ ls o v5 hs5 fs (j + 1) := by
 have hw := WP.atEnd W ho hl (Nat.le_succ _) hf
 have e : Wd.upd σ o (dels (σ o) (fs.take (j + 1))) = Wd.upd (Wd.upd σ o (dels (σ o) (fs.take j))) o (inL (dels (σ o) (fs.take j)) fs[j]).2 := by rw [upd_upd, dels_next _ _ hj]
 refine ⟨⟨p, _, v, h, by rw [e]; exact hw, fun k hk => ⟨?_, (hd k hk).2⟩⟩, by rw [e]; exact hR, Kd.Q_step C.q (fun k hk hlt => hf.k.2 k hlt (hd k hk.symm).1), C.b.keep hf.k5, C.sub⟩
 rw [Wd.upd_same]
 intro hs
 rcases hf.s k hs with e | e
 ·
  exact (hd k hk).1 e
 ·
  obtain ⟨cs, hc⟩ := Kd.Q_typed C.q k hk
  have := blk_lt hc
  omega
end
/-- Both ends have ticked. -/
def sT (σ : Nat → Lk) : Nat → Lk := Wd.upd (Wd.upd σ 0 (tickL (σ 0))) 1 (tickL (σ 1))
/-- What comes out of end k has come to the other one. -/
def carry (σ : Nat → Lk) (k o : Nat) : Nat → Lk := Wd.upd (Wd.upd σ k (outL (σ k)).2) o (dels (Wd.upd σ k (outL (σ k)).2 o) (outL (σ k)).1)
def outs (σ : Nat → Lk) (ls : Nat → List (List Int)) (k j : Nat) : Nat → List (List Int) := Wd.upd ls j (ls j ++ (outL (σ k)).1)
/-- A round, end by end. -/
def stK (σ : Nat → Lk) (ls : Nat → List (List Int)) : Nat → (Nat → Lk) × (Nat → List (List Int))
 | 0 => (sT σ, ls)
 | 1 => (carry (sT σ) 0 1, outs (sT σ) ls 0 6)
 | _ => (carry (carry (sT σ) 0 1) 1 0, outs (carry (sT σ) 0 1) (outs (sT σ) ls 0 6) 1 7)
theorem stK_rnd (σ : Nat → Lk) (ls : Nat → List (List Int)) : (stK σ ls 2).1 0 = (rnd (σ 0) (σ 1)).1 ∧ (stK σ ls 2).1 1 = (rnd (σ 0) (σ 1)).2 := ⟨rfl, rfl⟩
structure KR (w wr : World) (g M i : Nat) (σ : Nat → Lk) (ls : Nat → List (List Int)) (k : Nat) : Prop where
 wq : ∃ N, WQ wr w.heap.size N g (stK σ ls k).1 (stK σ ls k).2 ∧ N ≤ 1000 + 2500 * i + 1001 * k
 rel : Rel M (stK σ ls k).1 (stK σ ls k).2
 o6 : ((stK σ ls k).2 6).length ≤ 1000 * (400 + 2 * i + k)
 o7 : ((stK σ ls k).2 7).length ≤ 1000 * (400 + 2 * i + k)
 bl : Below w.heap.size w wr
/-- At the head of round i. -/
structure Arr (w wr : World) (g M i A0 B0 : Nat) (TA TB : List (List Int)) (σ : Nat → Lk) (ls : Nat → List (List Int)) : Prop where
 wq : ∃ N, WQ wr w.heap.size N g σ ls ∧ N ≤ 1000 + 2500 * i
 rel : Rel M σ ls
 o6 : (ls 6).length ≤ 1000 * (400 + 2 * i)
 o7 : (ls 7).length ≤ 1000 * (400 + 2 * i)
 af : After i A0 B0 TA TB (σ 0) (σ 1)
 bl : Below w.heap.size w wr
set_option maxRecDepth 100000 in
theorem KR.round {wr : World} {M i A0 B0 : Nat} {TA TB : List (List Int)} {σ : Nat → Lk} {ls : Nat → List (List Int)} (hr : Rel M σ ls) (ha : After i A0 B0 TA TB (σ 0) (σ 1)) (hM : M ≤ 1500) (k : KR w wr g M i σ ls 2) : Arr w wr g M (i + 1) A0 B0 TA TB (stK σ ls 2).1 (stK σ ls 2).2 := by
 obtain ⟨N, h1, h2⟩ := k.wq
 refine ⟨⟨N, h1, by omega⟩, k.rel, Nat.le_trans k.o6 (by omega), Nat.le_trans k.o7 (by omega), ?_, k.bl⟩
 obtain ⟨e1, e2⟩ := stK_rnd σ ls
 rw [e1, e2]
 exact ha.next hr.two (by omega)
/-- The body "x", a constant's. -/
def wX (w : World) : World := w.alloc (.cells #[.int .u8 120] 5 (1, 2))
theorem wX_blk (w : World) : (wX w).heap[w.heap.size]? = some (.cells #[.int .u8 120] 5 (1, 2)) := by unfold wX; exact blk_new w _
theorem x_C {w w' : World} (h : w'.heap[w.heap.size]? = some (.cells #[.int .u8 120] 5 (1, 2))) : Kd.C (Kd.int .u8) w' (some ⟨w.heap.size, 0, none⟩) ([120] : List Int).length [120] := by
 refine ⟨rfl, by decide, fun _ => ⟨_, rfl, fun j p hj => ?_⟩⟩
 have hj0 : j = 0 := by
  rcases Nat.eq_zero_or_pos j with e | e
  ·
   exact e
  ·
   rw [List.getElem?_eq_none (by simp; omega)] at hj; cases hj
 subst hj0
 cases hj
 refine ⟨[.int .u8 120], rfl, rfl, fun i u hi => ?_⟩
 have hi0 : i = 0 := by
  rcases Nat.eq_zero_or_pos i with e | e
  ·
   exact e
  ·
   rw [List.getElem?_eq_none (by simp; omega)] at hi; cases hi
 subst hi0
 cases hi
 simp [World.cell?, Addr.add, h]
theorem first_len (P : Prop) [Decidable P] {j k : Nat} (x : List (List Int)) (hk : k ≠ j) : ((if P then Wd.upd (fun _ => ([] : List (List Int))) j x else (fun _ => [])) k).length = 0 := by
 split
 ·
  rw [Wd.upd_ne _ _ hk]; rfl
 ·
  rfl
theorem guard_no {i n : Nat} (h : ¬ (i < n ∧ i < 300)) : (decide ((i : Int) < (n : Int)) = false ∧ decide (i < n) = false) ∨ (decide ((i : Int) < (n : Int)) = true ∧ decide (i < n) = true ∧ decide ((i : Int) < 300) = false ∧ decide (i < 300) = false) := by
 by_cases h1 : i < n
 ·
  exact .inr ⟨decide_eq_true (by omega), decide_eq_true h1, decide_eq_false (by omega), decide_eq_false (by omega)⟩
 ·
  exact .inl ⟨decide_eq_false (by omega), decide_eq_false h1⟩
/-- Behind the first message and i steps. -/
structure Pl (w wr : World) (g i : Nat) (σ : Nat → Lk) (ls : Nat → List (List Int)) : Prop where
 wq : WQ wr w.heap.size i g σ ls
 rel : Rel (i + 1) σ ls
 o6 : (ls 6).length ≤ 1000 * i
 o7 : (ls 7).length ≤ 1000 * i
 bl : Below w.heap.size w wr
theorem Pl.play {wr w1 : World} {i : Nat} {σ : Nat → Lk} {ls : Nat → List (List Int)} (h : Pl w wr g i σ ls) {σ' : Nat → Lk} {ls' : Nat → List (List Int)} (h1 : WQ w1 w.heap.size (i + 1) g σ' ls') (h2 : Rel (i + 1 + 1) σ' ls') (h3 : Grew ls ls') (h4 : Below w.heap.size wr w1) : Pl w w1 g (i + 1) σ' ls' :=
 ⟨h1, h2, by have := h3.1; have := h.o6; omega, by have := h3.2; have := h.o7; omega, h.bl.trans h4⟩
section
variable {wr w1 : World} {M : Nat} {σ : Nat → Lk} {ls : Nat → List (List Int)} {v5 : Value} {hs5 : List Hd} {fs : List (List Int)} {j : Nat}
theorem car_start {o : Nat} (ho : o < 2) {X : (Nat → Lk) × (Nat → List (List Int))} {w0 : World} (W0 : WQ w0 B N g X.1 X.2) (hR : Rel M σ ls) {p : Nat → Nat} {S : Nat → Nat → Prop} {v : Nat → Value} {h : Nat → List Hd} (W : WP w1 B N g p S σ v h ls) (hs : ∀ i, i < 2 → ∀ k, S i k → k < w0.heap.size)
  (hq : kH.Q 30 w1 w0.heap.size (fun k => some k = v5.ownBlock) v5 hs5) (hb : Bods w1 w0.heap.size hs5 fs) (hsub : ∀ f ∈ fs, f ∈ ls (7 - o)) : Car w1 B N g M σ ls o v5 hs5 fs 0 := by
 have e : Wd.upd σ o (dels (σ o) (fs.take 0)) = σ := by rw [List.take_zero]; exact upd_id σ o
 have hB := WQ.bsz W0
 obtain ⟨p0, S0, v0, h0, hw0⟩ := W0
 refine ⟨⟨p, S, v, h, by rw [e]; exact W, fun k hk => ?_⟩, by rw [e]; exact hR, Kd.Q_lower hq hB, bods_low hb hB, hsub⟩
 have h1 := Kd.Q_base hq k hk
 exact ⟨fun h2 => by have := hs o ho k h2; omega, fun e2 => by have := blk_lt hw0.blk; omega⟩
theorem car_below {o : Nat} (C : Car wr B N g M σ ls o v5 hs5 fs j) (hb : Below wr.heap.size wr w1) : Car w1 B N g M σ ls o v5 hs5 fs j := by
 obtain ⟨p, S, v, h, hw, hd⟩ := C.wp
 exact ⟨⟨p, S, v, h, hw.below hb, hd⟩, C.rel, Kd.Q_below C.q hb, C.b.keep (Keep5.below hb), C.sub⟩
theorem q_row {ad5 : Addr} {c5 : Nat} (hq : kH.Q 30 wr B (fun k => some k = (Value.slice (some ad5) hs5.length c5).ownBlock) (.slice (some ad5) hs5.length c5) hs5) (hb : Bods wr B hs5 fs) (hj : j < fs.length) :
  ∃ hd : Hd, wr.cell? (ad5.add j) = some (.slice hd.a hd.n hd.c) ∧ Bd wr B (.slice hd.a hd.n hd.c) fs[j] := by
 have hi : j < hs5.length := by rw [hb.1]; exact hj
 obtain ⟨_, e, hc⟩ := at_H (Kd.Q_reads' hq).2.2 (j : Int) (by omega) (by omega)
 cases e
 rw [Int.toNat_natCast] at hc
 exact ⟨rdH hs5 (j : Int), hc, hb.2 j _ _ (by unfold rdH; rw [Int.toNat_natCast, List.getD_eq_getElem?_getD, List.getElem?_eq_getElem hi, Option.getD_some]) (List.getElem?_eq_getElem hj)⟩
theorem rel_in1 {x : Lk} {f : List Int} (h : Rel M (Wd.upd σ 1 x) ls) (hM : M ≤ 1000000) (hf : f ∈ ls 6) : Rel M (Wd.upd (Wd.upd σ 1 x) 1 (inL x f).2) ls := by
 have := h.in1 hM hf
 rw [Wd.upd_same] at this
 exact this
theorem rel_in0 {x : Lk} {f : List Int} (h : Rel M (Wd.upd σ 0 x) ls) (hM : M ≤ 1000000) (hf : f ∈ ls 7) : Rel M (Wd.upd (Wd.upd σ 0 x) 0 (inL x f).2) ls := by
 have := h.in0 hM hf
 rw [Wd.upd_same] at this
 exact this
theorem in_at1 {x : Lk} {f : List Int} {hd : Hd} {p : Nat → Nat} {S : Nat → Nat → Prop} {v : Nat → Value} {h : Nat → List Hd} (W : WP wr B N g p S (Wd.upd σ 1 x) v h ls) (hR : Rel M (Wd.upd σ 1 x) ls) (hM : M ≤ 1500) (hN : N < maxLen) (hf : f ∈ ls 6) (hb : Bd wr B (.slice hd.a hd.n hd.c) f) :
  Calls Try.prog 22 #[.pointer (some ⟨p 1, 0, none⟩), .slice hd.a f.length hd.c] wr fun e w' => e = .returned (.int .i64 (inL x f).1) ∧ ∃ S', LP w' B (N + 1) S' (p 1) (inL x f).2 ∧ FrL B (S 1) S' wr w' := by
 have hl := W.e 1 (by decide)
 rw [Wd.upd_same] at hl
 obtain ⟨e1, e2, e3⟩ := Kd.R_reads' hb
 have hi := hR.two.ib
 rw [Wd.upd_same] at hi
 have hfb := frame_bytes hR.two.swap hM (hR.two.ga f hf)
 exact in_calls hl hi (by omega) hN hd.a hd.c f e3 (by rw [← e1]; exact e2) hfb.1 hfb.2
theorem in_at0 {x : Lk} {f : List Int} {hd : Hd} {p : Nat → Nat} {S : Nat → Nat → Prop} {v : Nat → Value} {h : Nat → List Hd} (W : WP wr B N g p S (Wd.upd σ 0 x) v h ls) (hR : Rel M (Wd.upd σ 0 x) ls) (hM : M ≤ 1500) (hN : N < maxLen) (hf : f ∈ ls 7) (hb : Bd wr B (.slice hd.a hd.n hd.c) f) :
  Calls Try.prog 22 #[.pointer (some ⟨p 0, 0, none⟩), .slice hd.a f.length hd.c] wr fun e w' => e = .returned (.int .i64 (inL x f).1) ∧ ∃ S', LP w' B (N + 1) S' (p 0) (inL x f).2 ∧ FrL B (S 0) S' wr w' := by
 have hl := W.e 0 (by decide)
 rw [Wd.upd_same] at hl
 obtain ⟨e1, e2, e3⟩ := Kd.R_reads' hb
 have hi := hR.two.ia
 rw [Wd.upd_same] at hi
 have hfb := frame_bytes hR.two hM (hR.two.gb f hf)
 exact in_calls hl hi (by omega) hN hd.a hd.c f e3 (by rw [← e1]; exact e2) hfb.1 hfb.2
theorem kr_next0 {wa : World} {i n5 : Nat} {X : (Nat → Lk) × (Nat → List (List Int))} (k : KR w wa g M i σ ls 0) (hX : X = stK σ ls 0) (hN : N ≤ 1000 + 2500 * i + 1001 * 0) (h5 : n5 ≤ 1000) (C : Car wr w.heap.size N g M (Wd.upd X.1 0 (outL (X.1 0)).2) (Wd.upd X.2 6 (X.2 6 ++ (outL (X.1 0)).1)) 1 v5 hs5 (outL (X.1 0)).1 n5) (hn : n5 = (outL (X.1 0)).1.length) (hb : Below w.heap.size w wr) :
  KR w wr g M i σ ls (0 + 1) := by
 subst hX
 obtain ⟨p, S, v, h, hw, _⟩ := C.wp
 have hr := C.rel
 rw [List.take_of_length_le (by omega)] at hw hr
 refine ⟨⟨N + n5, ⟨p, S, v, h, hw⟩, by omega⟩, hr, ?_, ?_, hb⟩
 ·
  have e : (stK σ ls (0 + 1)).2 6 = ls 6 ++ (outL (sT σ 0)).1 := rfl
  have e1 : (ls 6).length ≤ 1000 * (400 + 2 * i + 0) := k.o6
  have e2 : (outL (sT σ 0)).1.length = n5 := hn.symm
  rw [e, List.length_append, e2]
  omega
 ·
  exact Nat.le_trans k.o7 (by omega)
theorem kr_next1 {wa : World} {i n5 : Nat} {X : (Nat → Lk) × (Nat → List (List Int))} (k : KR w wa g M i σ ls 1) (hX : X = stK σ ls 1) (hN : N ≤ 1000 + 2500 * i + 1001 * 1) (h5 : n5 ≤ 1000) (C : Car wr w.heap.size N g M (Wd.upd X.1 1 (outL (X.1 1)).2) (Wd.upd X.2 7 (X.2 7 ++ (outL (X.1 1)).1)) 0 v5 hs5 (outL (X.1 1)).1 n5) (hn : n5 = (outL (X.1 1)).1.length) (hb : Below w.heap.size w wr) :
  KR w wr g M i σ ls (1 + 1) := by
 subst hX
 obtain ⟨p, S, v, h, hw, _⟩ := C.wp
 have hr := C.rel
 rw [List.take_of_length_le (by omega)] at hw hr
 refine ⟨⟨N + n5, ⟨p, S, v, h, hw⟩, by omega⟩, hr, ?_, ?_, hb⟩
 ·
  exact Nat.le_trans k.o6 (by omega)
 ·
  have e : (stK σ ls (1 + 1)).2 7 = (stK σ ls 1).2 7 ++ (outL ((stK σ ls 1).1 1)).1 := rfl
  have e1 := k.o7
  have e2 : (outL ((stK σ ls 1).1 1)).1.length = n5 := hn.symm
  rw [e, List.length_append, e2]
  omega
/-- What holds at the end, of both ends. -/
structure Fin (Y : (Nat → Lk) × (Nat → List (List Int))) : Prop where
 d0 : (Y.2 5).length = (Y.2 2).length
 d1 : (Y.2 4).length = (Y.2 3).length
 s0 : (Y.1 0).sure = (Y.2 2).length
 s1 : (Y.1 1).sure = (Y.2 3).length
theorem fin_of {i A0 B0 : Nat} {TA TB : List (List Int)} (hr : Rel M σ ls) (ha : After i A0 B0 TA TB (σ 0) (σ 1)) (h1 : TA.length + 1 ≤ A0 + i) (h2 : TB.length + 1 ≤ B0 + i) (h3 : 1 ≤ i) : Fin (told (told σ 0) 1, toldL (told σ 0) (toldL σ ls 0 4) 1 5) := by
 obtain ⟨e1, e2, e3, e4⟩ := ha.done hr.two h1 h2 h3
 have f4 : toldL (told σ 0) (toldL σ ls 0 4) 1 5 4 = (σ 0).all := hr.tell0.2
 have f5 : toldL (told σ 0) (toldL σ ls 0 4) 1 5 5 = (σ 1).all := hr.tell0.1.tell1.2
 exact ⟨by show (toldL (told σ 0) (toldL σ ls 0 4) 1 5 5).length = (ls 2).length; rw [f5, hr.t0]; exact e4, by show (toldL (told σ 0) (toldL σ ls 0 4) 1 5 4).length = (ls 3).length; rw [f4, hr.t1]; exact e3, by show (σ 0).sure = (ls 2).length; rw [hr.t0]; exact e1, by show (σ 1).sure = (ls 3).length; rw [hr.t1]; exact e2⟩
end
theorem meas6 {i n : Nat} (h : i < n) : n - (intOf (.int .i64 ((i : Int) + 1))).toNat < n - (intOf (.int .i64 (i : Int))).toNat := by
 simp only [intOf]
 omega
theorem Arr.below {wa wr w' : World} {M i A0 B0 : Nat} {TA TB : List (List Int)} {σ : Nat → Lk} {ls : Nat → List (List Int)} (A : Arr wa wr g M i A0 B0 TA TB σ ls) (hb : Below wr.heap.size wr w') : Arr wa w' g M i A0 B0 TA TB σ ls := by
 obtain ⟨N, h1, h2⟩ := A.wq
 exact ⟨⟨N, WQ.below h1 hb, h2⟩, A.rel, A.o6, A.o7, A.af, A.bl.trans (hb.mono A.bl.size)⟩
theorem kr_0 {wa wr w' : World} {M i A0 B0 : Nat} {TA TB : List (List Int)} {σ : Nat → Lk} {ls : Nat → List (List Int)} (A : Arr wa wr g M i A0 B0 TA TB σ ls) {p : Nat → Nat} {S : Nat → Nat → Prop} {v : Nat → Value} {h : Nat → List Hd} (W : WP w' wa.heap.size N g p S (Wd.upd (Wd.upd σ 0 (tickL (σ 0))) 1 (tickL (σ 1))) v h ls) (hN : N ≤ 1000 + 2500 * i) (hb : Below wa.heap.size wa w') : KR wa w' g M i σ ls 0 :=
 ⟨⟨N, ⟨p, S, v, h, W⟩, by omega⟩, A.rel.tick0.tick1, Nat.le_trans A.o6 (by omega), Nat.le_trans A.o7 (by omega), hb⟩
theorem n_max {N n k j n5 : Nat} (hN : N ≤ 1000 + 2500 * n + 1001 * k) (hn : n ≤ 66) (hk : k ≤ 2) (hj : j ≤ n5) (h5 : n5 ≤ 1000) : N + j < maxLen := by
 unfold maxLen; omega
theorem max_if {t0 t1 s0 s1 R : Nat} (h0 : s0 ≤ t0) (h1 : s1 ≤ t1) (hR : R = max (t0 - s0) (t1 - s1) + 2) : (if (t0 : Int) - (s0 : Int) < (t1 : Int) - (s1 : Int) then (t1 : Int) - (s1 : Int) else (t0 : Int) - (s0 : Int)) = (R : Int) - 2 := by
 split <;> omega
theorem sure_at {S : Nat → Prop} {p : Nat} {x : Lk} (h : LP w B N S p x) {s : Nat} (hs : s = x.sure) (n : Nat) : Calls Try.prog 38 #[.pointer (some ⟨p, 0, none⟩)] (w.drewN n) fun e w' => e = .returned (.int .i64 (s : Int)) ∧ w' = w.drewN n := by
 subst hs
 exact sure_calls (Lc.LP.below h (pw_below_drewN (Below.refl _ _) _))
end Go.Proofs.Ytekakngojhnleaa.Wl
