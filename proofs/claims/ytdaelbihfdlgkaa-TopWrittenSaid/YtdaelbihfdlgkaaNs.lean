/- The sum of two numbers' limbs. -/
import Derived.Test.YtdaelbihfdlgkaaFa
import Derived.Test.YtdaelbihfdlgkaaNv
namespace Go.Proofs.Ytdaelbihfdlgkaa.Ns
open Go.RowKit Go.Proofs.Ytdaelbihfdlgkaa.Na Go.Proofs.Ytdaelbihfdlgkaa.Nv Go.Proofs.Ytdaelbihfdlgkaa.Fns Go.Proofs.YtdaelbihfdlgkaaW.PrintWords Go.Proofs.YtdaelbihfdlgkaaW.PrintLast Go.Proofs.YtdaelbihfdlgkaaW.PrintMore
set_option linter.unusedVariables false
set_option linter.unusedSimpArgs false
/-- Limbs that are read. -/
structure Rd (w : World) (A : Option Addr) (c : Nat) (xs : List Int) : Prop where
  r : Kd.C (Kd.int .u64) w A xs.length xs
  c : xs.length ≤ c
  l : Lim xs
theorem Rd.below {w w' : World} {A : Option Addr} {c : Nat} {xs : List Int} (h : Rd w A c xs) (hb : Below w.heap.size w w') : Rd w' A c xs := ⟨Kd.C_below h.r hb, h.c, h.l⟩
theorem Rd.at {w : World} {A : Option Addr} {c : Nat} {xs : List Int} (h : Rd w A c xs) (i : Nat) (hi : i < xs.length) : ∃ ad, A = some ad ∧ w.cell? (ad.add i) = some (.int .u64 xs[i]) := by
  obtain ⟨ad, e, hc⟩ := Kd.at_int h.r (i : Int) (by omega) (by omega)
  refine ⟨ad, e, ?_⟩
  rw [Int.toNat_natCast] at hc
  rw [hc]
  simp [rd, hi]
/-- Add64 as a step. -/
theorem add_step {x y c : Int} (hx : 0 ≤ x ∧ x < B) (hy : 0 ≤ y ∧ y < B) (hc : 0 ≤ c ∧ c ≤ 1) {d k : Int} (hd : d = (x + y + c) % B) (hk : k = (x + y + c) / B) (w : World) : CallsX Try.prog 13 #[.int .u64 x, .int .u64 y, .int .u64 c] w fun e w' => e = .returned (.tuple #[.int .u64 d, .int .u64 k]) ∧ w' = w := by
  have h : bits_Add64.f x y c = some (d, k) := by
    unfold bits_Add64.f
    rw [if_pos ⟨hx, hy, hc.1, hc.2⟩, hd, hk]
    rfl
  obtain ⟨v, h1, h2, _⟩ := bits_Add64.calls x y c _ _ w h
  exact ⟨v, h1, h2, rfl⟩
theorem lt_wrap {n : Nat} (h : n ≤ 1000000) : wrap64 ((n : Int) + 1) = (n : Int) + 1 := by unfold wrap64; omega
theorem smeas {i n : Nat} (h : i < n) : n - (intOf (.int .i64 ((i : Int) + 1))).toNat < n - (intOf (.int .i64 (i : Int))).toNat := by
  simp only [intOf]
  omega
set_option maxRecDepth 100000 in
set_option maxHeartbeats 2000000 in
theorem sum_ge {AX AY : Option Addr} {cX cY : Nat} {X Y : List Int} (w : World) (hX : Rd w AX cX X) (hY : Rd w AY cY Y) (hl : Y.length ≤ X.length) (hn : X.length ≤ 100000) :
    Calls Try.prog 36 #[.slice AX X.length cX, .slice AY Y.length cY] w fun e w' => ∃ v r, e = .returned v ∧ (Kd.int .u64).R 36 w' w.heap.size (fun _ => True) v r ∧ Below w.heap.size w w' ∧ Lim r ∧ V r = V X + V Y ∧ r.length = X.length + 1 := by
  have HX := Aside0.mk hX
  have HY := Aside0.mk hY
  have hcmp : decide ((X.length : Int) < (Y.length : Int)) = false := decide_eq_false (by omega)
  have hcmp2 : decide (X.length < Y.length) = false := decide_eq_false (by omega)
  have hw1 := lt_wrap (n := X.length) (by omega)
  have hz0 : (0 : Int) ≤ (X.length : Int) + 1 := by omega
  have hmk : ((X.length : Int) + 1).toNat * 8 ≤ 281474976710656 := by omega
  have HLE := Aside0.mk (show Y.length ≤ X.length by omega)
  have HN := Aside0.mk hn
  obtain ⟨n, hnx⟩ : ∃ n, n = X.length := ⟨_, rfl⟩
  obtain ⟨m, hmy⟩ : ∃ m, m = Y.length := ⟨_, rfl⟩
  rw [← hnx] at hcmp hcmp2 hw1 hz0 hmk HLE HN ⊢
  rw [← hmy] at hcmp hcmp2 HLE ⊢
  have HNX := Aside0.mk (And.intro hnx hmy)
  clear hX hY hl hn hnx hmy
  go_enter Try.func36, Try.ntmps36
  go_wp2_with ((with_reducible refine gate_dst (N := 19) rfl ?_); refine Kd.R_make (Kd.int .u64) w.heap.size 36 rfl (N := 19) rfl 23 _ _ rfl ((n : Int) + 1) (by first | rfl | exact congrArg _ hw1) (by first | rfl | exact congrArg _ hw1) Try.underlying23 (.int .u64 0) 8 info36 rfl (by decide) (by omega) 0 (ok := fun _ => True) (okp := fun _ => True) rfl (fun _ hk => hk) trivial hz0 hmk (Below.refl _ _) (Nat.le_refl _) ?_; intro v5 w5 ho5 hb5 _ _; have HO5 := Aside0.mk ho5; have HB5 := Aside0.mk hb5; clear ho5 hb5)
  obtain ⟨g, cap, e5, hbg, _⟩ := Kd.R_form HO5.out (by simp)
  rw [List.length_replicate, show ((n : Int) + 1).toNat = n + 1 by omega] at e5
  subst e5
  have HS := Aside0.mk (show SumI X Y 0 (List.replicate ((n : Int) + 1).toNat 0) 0 by rw [show ((n : Int) + 1).toNat = X.length + 1 by have := HNX.out.1; omega]; exact SumI.start X Y)
  clear hcmp hcmp2 hw1 hz0 hmk
  go_loopw [6, 7, 8, 22] (fun v6 v7 v8 v22 wr => ∃ (i : Nat) (o : List Int) (cy : Int), v6 = .int .u64 cy ∧ v22 = .int .i64 (i : Int) ∧ i ≤ n ∧ Aside0 (SumI X Y i o cy) ∧ Aside0 ((Kd.int .u64).R 36 wr w.heap.size (fun _ => True) (.slice (some ⟨g, 0, none⟩) (n + 1) cap) o) ∧ Aside0 (Below w.heap.size w wr)) (fun _ _ _ v22 _ => n - (intOf v22).toNat)
  case atStart => exact ⟨0, _, 0, rfl, rfl, Nat.zero_le _, HS, HO5, HB5⟩
  case round =>
    clear HS HO5 HB5
    obtain ⟨i, o, cy, rfl, rfl, hi, HS, HO, HB⟩ := hrel
    by_cases hlt : i < n
    · have hxl : i < X.length := by have := HNX.out; omega
      obtain ⟨ax, hax, hxc⟩ := (HX.out.below HB.out).at i hxl
      subst hax
      obtain ⟨x, hx⟩ : ∃ x, x = X[i] := ⟨_, rfl⟩
      rw [← hx] at hxc
      obtain ⟨y, hy⟩ : ∃ y, y = at0 Y i := ⟨_, rfl⟩
      have hst := HS.out.step hxl HX.out.l HY.out.l
      rw [← hx, ← hy] at hst
      obtain ⟨dd, hdd⟩ : ∃ d, d = (x + y + cy) % B := ⟨_, rfl⟩
      obtain ⟨cc, hcc⟩ : ∃ d, d = (x + y + cy) / B := ⟨_, rfl⟩
      rw [← hdd, ← hcc] at hst
      have HADD := Aside0.mk (fun W => add_step (x := x) (y := y) (c := cy) (by rw [hx]; exact HX.out.l _ (List.getElem_mem hxl)) (by rw [hy]; exact at0_lim HY.out.l i) HS.out.c hdd hcc W)
      clear hdd hcc
      have HST := Aside0.mk hst
      obtain ⟨g1, g2⟩ := Kd.R_celln 0 HO.out (i : Int) (by omega) (by omega)
      have HP := Aside0.mk (Kd.R_putg HO.out (i : Int) dd)
      have HLT := Aside0.mk hlt
      have hil : (i : Int) < (n : Int) := by omega
      have hin : (i : Int) < ((n + 1 : Nat) : Int) := by omega
      have hin2 : (i : Int) < (n : Int) + 1 := by omega
      have h0i : (0 : Int) ≤ (i : Int) := by omega
      have hil2 : decide ((i : Int) < (n : Int)) = true := decide_eq_true hil
      have hil3 : decide (i < n) = true := decide_eq_true hlt
      have HWI := Aside0.mk (lt_wrap (n := i) (by have := HN.out; omega))
      rw [Int.toNat_natCast] at g1 g2 HP
      by_cases him : i < m
      · have d1 : decide ((i : Int) < (m : Int)) = true := decide_eq_true (by omega)
        have d2 : decide (i < m) = true := decide_eq_true him
        have him2 : (i : Int) < (m : Int) := by omega
        have hyl : i < Y.length := by have := HNX.out; omega
        obtain ⟨ay, hay, hyc⟩ := (HY.out.below HB.out).at i hyl
        subst hay
        rw [show Y[i] = y by rw [hy]; unfold at0; rw [dif_pos hyl]] at hyc
        clear hx hy hst hlt him
        have hwi := HWI.out
        go_wp2_with ((with_reducible refine gate_callee (f := 13) rfl ?_); refine goesX_ (some 42) rfl rfl #[.int .u64 x, .int .u64 y, .int .u64 cy] rfl (by (try simp only [List.map_toArray, List.map_cons, List.map_nil]); first | done | rfl) ?_; refine (HADD.out _).mono ?_; rintro e w6 ⟨rfl, hw6⟩; subst hw6; refine ⟨_, rfl, ?_⟩)
        go_roundw
        case rel => exact ⟨i + 1, _, cc, rfl, by go_num, HLT.out, HST, ⟨HP.out.1⟩, ⟨HB.out.grown HP.out.2 HB.out.size (fun k hk => by cases hk; exact hbg)⟩⟩
        case measure => first | exact smeas HLT.out | (rw [hwi]; exact smeas HLT.out)
      · have d1 : decide ((i : Int) < (m : Int)) = false := decide_eq_false (by omega)
        have d2 : decide (i < m) = false := decide_eq_false him
        have him2 : ¬ (i : Int) < (m : Int) := by omega
        have hy0 : y = 0 := by rw [hy]; unfold at0; rw [dif_neg (by have := HNX.out; omega)]
        clear hx hy hst hlt him
        subst hy0
        have hwi := HWI.out
        go_wp2_with ((with_reducible refine gate_callee (f := 13) rfl ?_); refine goesX_ (some 42) rfl rfl #[.int .u64 x, .int .u64 0, .int .u64 cy] rfl (by (try simp only [List.map_toArray, List.map_cons, List.map_nil]); first | done | rfl) ?_; refine (HADD.out _).mono ?_; rintro e w6 ⟨rfl, hw6⟩; subst hw6; refine ⟨_, rfl, ?_⟩)
        go_roundw
        case rel => exact ⟨i + 1, _, cc, rfl, by go_num, HLT.out, HST, ⟨HP.out.1⟩, ⟨HB.out.grown HP.out.2 HB.out.size (fun k hk => by cases hk; exact hbg)⟩⟩
        case measure => first | exact smeas HLT.out | (rw [hwi]; exact smeas HLT.out)
    · have hil : ¬ (i : Int) < (n : Int) := by omega
      have hil2 : decide ((i : Int) < (n : Int)) = false := decide_eq_false hil
      have hil3 : decide (i < n) = false := decide_eq_false hlt
      obtain ⟨g1, g2⟩ := Kd.R_celln 0 HO.out (n : Int) (by omega) (by omega)
      have HP := Aside0.mk (Kd.R_putg HO.out (n : Int) cy)
      rw [Int.toNat_natCast] at g1 g2 HP
      have HDN := Aside0.mk (SumI.done (Y := Y) (cy := cy) (o := o) (by have e : i = X.length := (by have := HNX.out; omega); rw [← e]; exact HS.out) (by have := HNX.out; have := HLE.out; omega))
      have h0n : (0 : Int) ≤ (n : Int) := by omega
      have hnn : (n : Int) < (n : Int) + 1 := by omega
      have hnn2 : (n : Int) < ((n + 1 : Nat) : Int) := by omega
      clear hlt hil
      go_wp2_with fail
      go_ret
      have hd := HDN.out
      rw [← HNX.out.1] at hd
      exact ⟨_, _, rfl, HP.out.1, HB.out.grown HP.out.2 HB.out.size (fun k hk => by cases hk; exact hbg), hd⟩
set_option maxRecDepth 100000 in
set_option maxHeartbeats 2000000 in
theorem sum_lt {AX AY : Option Addr} {cX cY : Nat} {X Y : List Int} (w : World) (hX : Rd w AX cX X) (hY : Rd w AY cY Y) (hl : Y.length < X.length) (hn : X.length ≤ 100000) :
    Calls Try.prog 36 #[.slice AY Y.length cY, .slice AX X.length cX] w fun e w' => ∃ v r, e = .returned v ∧ (Kd.int .u64).R 36 w' w.heap.size (fun _ => True) v r ∧ Below w.heap.size w w' ∧ Lim r ∧ V r = V X + V Y ∧ r.length = X.length + 1 := by
  have HX := Aside0.mk hX
  have HY := Aside0.mk hY
  have hcmp : decide ((Y.length : Int) < (X.length : Int)) = true := decide_eq_true (by omega)
  have hcmp2 : decide (Y.length < X.length) = true := decide_eq_true (by omega)
  have hw1 := lt_wrap (n := X.length) (by omega)
  have hz0 : (0 : Int) ≤ (X.length : Int) + 1 := by omega
  have hmk : ((X.length : Int) + 1).toNat * 8 ≤ 281474976710656 := by omega
  have HLE := Aside0.mk (show Y.length ≤ X.length by omega)
  have HN := Aside0.mk hn
  obtain ⟨n, hnx⟩ : ∃ n, n = X.length := ⟨_, rfl⟩
  obtain ⟨m, hmy⟩ : ∃ m, m = Y.length := ⟨_, rfl⟩
  rw [← hnx] at hcmp hcmp2 hw1 hz0 hmk HLE HN ⊢
  rw [← hmy] at hcmp hcmp2 HLE ⊢
  have HNX := Aside0.mk (And.intro hnx hmy)
  clear hX hY hl hn hnx hmy
  go_enter Try.func36, Try.ntmps36
  go_wp2_with ((with_reducible refine gate_dst (N := 19) rfl ?_); refine Kd.R_make (Kd.int .u64) w.heap.size 36 rfl (N := 19) rfl 23 _ _ rfl ((n : Int) + 1) (by first | rfl | exact congrArg _ hw1) (by first | rfl | exact congrArg _ hw1) Try.underlying23 (.int .u64 0) 8 info36 rfl (by decide) (by omega) 0 (ok := fun _ => True) (okp := fun _ => True) rfl (fun _ hk => hk) trivial hz0 hmk (Below.refl _ _) (Nat.le_refl _) ?_; intro v5 w5 ho5 hb5 _ _; have HO5 := Aside0.mk ho5; have HB5 := Aside0.mk hb5; clear ho5 hb5)
  obtain ⟨g, cap, e5, hbg, _⟩ := Kd.R_form HO5.out (by simp)
  rw [List.length_replicate, show ((n : Int) + 1).toNat = n + 1 by omega] at e5
  subst e5
  have HS := Aside0.mk (show SumI X Y 0 (List.replicate ((n : Int) + 1).toNat 0) 0 by rw [show ((n : Int) + 1).toNat = X.length + 1 by have := HNX.out.1; omega]; exact SumI.start X Y)
  clear hcmp hcmp2 hw1 hz0 hmk
  go_loopw [6, 7, 8, 22] (fun v6 v7 v8 v22 wr => ∃ (i : Nat) (o : List Int) (cy : Int), v6 = .int .u64 cy ∧ v22 = .int .i64 (i : Int) ∧ i ≤ n ∧ Aside0 (SumI X Y i o cy) ∧ Aside0 ((Kd.int .u64).R 36 wr w.heap.size (fun _ => True) (.slice (some ⟨g, 0, none⟩) (n + 1) cap) o) ∧ Aside0 (Below w.heap.size w wr)) (fun _ _ _ v22 _ => n - (intOf v22).toNat)
  case atStart => exact ⟨0, _, 0, rfl, rfl, Nat.zero_le _, HS, HO5, HB5⟩
  case round =>
    clear HS HO5 HB5
    obtain ⟨i, o, cy, rfl, rfl, hi, HS, HO, HB⟩ := hrel
    by_cases hlt : i < n
    · have hxl : i < X.length := by have := HNX.out; omega
      obtain ⟨ax, hax, hxc⟩ := (HX.out.below HB.out).at i hxl
      subst hax
      obtain ⟨x, hx⟩ : ∃ x, x = X[i] := ⟨_, rfl⟩
      rw [← hx] at hxc
      obtain ⟨y, hy⟩ : ∃ y, y = at0 Y i := ⟨_, rfl⟩
      have hst := HS.out.step hxl HX.out.l HY.out.l
      rw [← hx, ← hy] at hst
      obtain ⟨dd, hdd⟩ : ∃ d, d = (x + y + cy) % B := ⟨_, rfl⟩
      obtain ⟨cc, hcc⟩ : ∃ d, d = (x + y + cy) / B := ⟨_, rfl⟩
      rw [← hdd, ← hcc] at hst
      have HADD := Aside0.mk (fun W => add_step (x := x) (y := y) (c := cy) (by rw [hx]; exact HX.out.l _ (List.getElem_mem hxl)) (by rw [hy]; exact at0_lim HY.out.l i) HS.out.c hdd hcc W)
      clear hdd hcc
      have HST := Aside0.mk hst
      obtain ⟨g1, g2⟩ := Kd.R_celln 0 HO.out (i : Int) (by omega) (by omega)
      have HP := Aside0.mk (Kd.R_putg HO.out (i : Int) dd)
      have HLT := Aside0.mk hlt
      have hil : (i : Int) < (n : Int) := by omega
      have hin : (i : Int) < ((n + 1 : Nat) : Int) := by omega
      have hin2 : (i : Int) < (n : Int) + 1 := by omega
      have h0i : (0 : Int) ≤ (i : Int) := by omega
      have hil2 : decide ((i : Int) < (n : Int)) = true := decide_eq_true hil
      have hil3 : decide (i < n) = true := decide_eq_true hlt
      have HWI := Aside0.mk (lt_wrap (n := i) (by have := HN.out; omega))
      rw [Int.toNat_natCast] at g1 g2 HP
      by_cases him : i < m
      · have d1 : decide ((i : Int) < (m : Int)) = true := decide_eq_true (by omega)
        have d2 : decide (i < m) = true := decide_eq_true him
        have him2 : (i : Int) < (m : Int) := by omega
        have hyl : i < Y.length := by have := HNX.out; omega
        obtain ⟨ay, hay, hyc⟩ := (HY.out.below HB.out).at i hyl
        subst hay
        rw [show Y[i] = y by rw [hy]; unfold at0; rw [dif_pos hyl]] at hyc
        clear hx hy hst hlt him
        have hwi := HWI.out
        go_wp2_with ((with_reducible refine gate_callee (f := 13) rfl ?_); refine goesX_ (some 42) rfl rfl #[.int .u64 x, .int .u64 y, .int .u64 cy] rfl (by (try simp only [List.map_toArray, List.map_cons, List.map_nil]); first | done | rfl) ?_; refine (HADD.out _).mono ?_; rintro e w6 ⟨rfl, hw6⟩; subst hw6; refine ⟨_, rfl, ?_⟩)
        go_roundw
        case rel => exact ⟨i + 1, _, cc, rfl, by go_num, HLT.out, HST, ⟨HP.out.1⟩, ⟨HB.out.grown HP.out.2 HB.out.size (fun k hk => by cases hk; exact hbg)⟩⟩
        case measure => first | exact smeas HLT.out | (rw [hwi]; exact smeas HLT.out)
      · have d1 : decide ((i : Int) < (m : Int)) = false := decide_eq_false (by omega)
        have d2 : decide (i < m) = false := decide_eq_false him
        have him2 : ¬ (i : Int) < (m : Int) := by omega
        have hy0 : y = 0 := by rw [hy]; unfold at0; rw [dif_neg (by have := HNX.out; omega)]
        clear hx hy hst hlt him
        subst hy0
        have hwi := HWI.out
        go_wp2_with ((with_reducible refine gate_callee (f := 13) rfl ?_); refine goesX_ (some 42) rfl rfl #[.int .u64 x, .int .u64 0, .int .u64 cy] rfl (by (try simp only [List.map_toArray, List.map_cons, List.map_nil]); first | done | rfl) ?_; refine (HADD.out _).mono ?_; rintro e w6 ⟨rfl, hw6⟩; subst hw6; refine ⟨_, rfl, ?_⟩)
        go_roundw
        case rel => exact ⟨i + 1, _, cc, rfl, by go_num, HLT.out, HST, ⟨HP.out.1⟩, ⟨HB.out.grown HP.out.2 HB.out.size (fun k hk => by cases hk; exact hbg)⟩⟩
        case measure => first | exact smeas HLT.out | (rw [hwi]; exact smeas HLT.out)
    · have hil : ¬ (i : Int) < (n : Int) := by omega
      have hil2 : decide ((i : Int) < (n : Int)) = false := decide_eq_false hil
      have hil3 : decide (i < n) = false := decide_eq_false hlt
      obtain ⟨g1, g2⟩ := Kd.R_celln 0 HO.out (n : Int) (by omega) (by omega)
      have HP := Aside0.mk (Kd.R_putg HO.out (n : Int) cy)
      rw [Int.toNat_natCast] at g1 g2 HP
      have HDN := Aside0.mk (SumI.done (Y := Y) (cy := cy) (o := o) (by have e : i = X.length := (by have := HNX.out; omega); rw [← e]; exact HS.out) (by have := HNX.out; have := HLE.out; omega))
      have h0n : (0 : Int) ≤ (n : Int) := by omega
      have hnn : (n : Int) < (n : Int) + 1 := by omega
      have hnn2 : (n : Int) < ((n + 1 : Nat) : Int) := by omega
      clear hlt hil
      go_wp2_with fail
      go_ret
      have hd := HDN.out
      rw [← HNX.out.1] at hd
      exact ⟨_, _, rfl, HP.out.1, HB.out.grown HP.out.2 HB.out.size (fun k hk => by cases hk; exact hbg), hd⟩
end Go.Proofs.Ytdaelbihfdlgkaa.Ns
