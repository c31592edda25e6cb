/- The product of long numbers out of three products of halves. -/
import Derived.Test.YtdaelbihfdlgkaaNh
namespace Go.Proofs.Ytdaelbihfdlgkaa.Ni
open Go.RowKit Go.Proofs.Ytdaelbihfdlgkaa.Na Go.Proofs.Ytdaelbihfdlgkaa.Nv Go.Proofs.Ytdaelbihfdlgkaa.Ns Go.Proofs.Ytdaelbihfdlgkaa.Nt Go.Proofs.Ytdaelbihfdlgkaa.Np Go.Proofs.Ytdaelbihfdlgkaa.Nq Go.Proofs.Ytdaelbihfdlgkaa.No Go.Proofs.Ytdaelbihfdlgkaa.Nc Go.Proofs.Ytdaelbihfdlgkaa.Nh Go.Proofs.Ytdaelbihfdlgkaa.Fns Go.Proofs.YtdaelbihfdlgkaaW.PrintWords Go.Proofs.YtdaelbihfdlgkaaW.PrintLast Go.Proofs.YtdaelbihfdlgkaaW.PrintMore
set_option linter.unusedVariables false
set_option linter.unusedSimpArgs false
variable {A0 A1 : Option Addr} {c0 c1 : Nat} {a b : List Int}
section
attribute [local go_sem] max2_int min2_int max_two min_two
set_option maxRecDepth 100000 in
set_option maxHeartbeats 2000000 in
theorem halves_big {g : Nat} (w : World) (hg : w.cell? ⟨g, 0, none⟩ = some (.func (.func 32) #[] #[.pointer (some ⟨g, 0, none⟩)])) (ha : Rd w A0 c0 a) (hb : Rd w A1 c1 b)
    (h1 : 24 ≤ a.length ∧ a.length ≤ 40) (h2 : 24 ≤ b.length ∧ b.length ≤ 40) :
    Calls Try.prog 32 #[.slice A0 a.length c0, .slice A1 b.length c1, .pointer (some ⟨g, 0, none⟩)] w (Out w (Pd a b)) := by
  obtain ⟨n, hn⟩ : ∃ n, n = a.length := ⟨_, rfl⟩
  obtain ⟨m, hm⟩ : ∃ m, m = b.length := ⟨_, rfl⟩
  obtain ⟨h, hh⟩ : ∃ h, h = (max n m + 1) / 2 := ⟨_, rfl⟩
  have HH := Aside0.mk (show Hn a b n m h from ⟨⟨hn, hm⟩, hh, by rw [hn]; exact h1, by rw [hm]; exact h2⟩)
  have HA := Aside0.mk ha
  have HB := Aside0.mk hb
  have HG := Aside0.mk (World.block_lt_of_cell? w _ hg)
  have d1 : decide ((n : Int) < 24) = false := decide_eq_false (by omega)
  have d2 : decide (n < 24) = false := decide_eq_false (by omega)
  have d3 : decide ((m : Int) < 24) = false := decide_eq_false (by omega)
  have d4 : decide (m < 24) = false := decide_eq_false (by omega)
  have mx1 : (if (n : Int) < (m : Int) then (m : Int) else (n : Int)) = ((max n m : Nat) : Int) := by split <;> omega
  have mx2 : (if n < m then (m : Int) else (n : Int)) = ((max n m : Nat) : Int) := by split <;> omega
  have q1 := half_len (n := n) (m := m) (h := h) (by omega) hh
  have HLA := Aside0.mk (fun W (hx : Bx w g h W) => hx.low ha (by omega))
  have HLB := Aside0.mk (fun W (hx : Bx w g h W) => hx.low hb (by omega))
  have HHA := Aside0.mk (fun W (hx : Bx w g h W) => hx.high ha (by omega))
  have HHB := Aside0.mk (fun W (hx : Bx w g h W) => hx.high hb (by omega))
  rw [← hn] at HLA HHA ⊢
  rw [← hm] at HLB HHB ⊢
  clear hn hm hh ha hb h1 h2
  go_enter Try.func32, Try.ntmps32
  go_upto_region 1 with fail
  go_cut [20] from 13 to 20 (fun v20 wx => v20 = .bool false ∧ wx = w)
  case first =>
    go_wp2_with fail
    all_goals go_meet
    all_goals exact ⟨rfl, rfl⟩
  case rest =>
    obtain ⟨rfl, hw⟩ := hcut
    have hw2 := hw.symm
    subst hw2
    clear hw
    clear d1 d2 d3 d4
    go_upto_region 6 with fail
    have HX0 := Aside0.mk (bx_start hg HG.out h)
    refine start_ (n := 18) (S := fun w' => w'.cell? ⟨g, 0, none⟩ = some (.func (.func 32) #[] #[.pointer (some ⟨g, 0, none⟩)])) (ds := []) #[false, false, false, false, false, false, false, false, false, false, false, false, false, false, false, false, false, false] (by kernel_rfl) rfl rfl HX0.out.2.1 (fun hHeld => ?_)
    generalize (w.alloc (.cells #[.int .i64 (h : Int)] 3)).drew = u0 at HX0 hHeld ⊢
    refine take_ (i := 0) (N := some 33) (v := ?_) (a' := ?_) #[true, false, false, false, false, false, false, false, false, false, false, false, false, false, false, false, false, false] rfl rfl (by kernel_rfl) (fun _ _ _ h => h) (Or.inl ⟨by rfl, ?_⟩) hHeld ?_ ?_
    rotate_left
    · intro w' hSw
      go_simp
      try with_reducible rfl
    rotate_left
    · simp only [Act.put, List.setIfInBounds_toArray, List.set_cons_zero, List.set_cons_succ, i64_w, i32_w]
      rfl
    refine pure_ (i := 1) (N := some 34) (v := ?_) (a' := ?_) #[true, true, false, false, false, false, false, false, false, false, false, false, false, false, false, false, false, false] rfl rfl (by kernel_rfl) (fun _ _ _ h => h) (Or.inl ⟨by rfl, ?_⟩) ?_ ?_
    rotate_left
    · intro w'
      go_simp
      try with_reducible rfl
    rotate_left
    · simp only [Act.put, List.setIfInBounds_toArray, List.set_cons_zero, List.set_cons_succ, i64_w, i32_w]
      rfl
    refine pure_ (i := 2) (N := some 35) (v := ?_) (a' := ?_) #[true, true, true, false, false, false, false, false, false, false, false, false, false, false, false, false, false, false] rfl rfl (by kernel_rfl) (fun _ _ _ h => h) (Or.inl ⟨by rfl, ?_⟩) ?_ ?_
    rotate_left
    · intro w'
      go_simp
      try with_reducible rfl
    rotate_left
    · simp only [Act.put, List.setIfInBounds_toArray, List.set_cons_zero, List.set_cons_succ, i64_w, i32_w]
      rfl
    refine pure_ (i := 4) (N := some 37) (v := ?_) (a' := ?_) #[true, true, true, false, true, false, false, false, false, false, false, false, false, false, false, false, false, false] rfl rfl (by kernel_rfl) (fun _ _ _ h => h) (Or.inl ⟨by rfl, ?_⟩) ?_ ?_
    rotate_left
    · intro w'
      go_simp
      try with_reducible rfl
    rotate_left
    · simp only [Act.put, List.setIfInBounds_toArray, List.set_cons_zero, List.set_cons_succ, i64_w, i32_w]
      rfl
    refine pure_ (i := 5) (N := some 38) (v := ?_) (a' := ?_) #[true, true, true, false, true, true, false, false, false, false, false, false, false, false, false, false, false, false] rfl rfl (by kernel_rfl) (fun _ _ _ h => h) (Or.inl ⟨by rfl, ?_⟩) ?_ ?_
    rotate_left
    · intro w'
      go_simp
      try with_reducible rfl
    rotate_left
    · simp only [Act.put, List.setIfInBounds_toArray, List.set_cons_zero, List.set_cons_succ, i64_w, i32_w]
      rfl
    refine take_ (i := 8) (N := some 41) (v := ?_) (a' := ?_) #[true, true, true, false, true, true, false, false, true, false, false, false, false, false, false, false, false, false] rfl rfl (by kernel_rfl) (fun _ _ _ h => h) (Or.inl ⟨by rfl, ?_⟩) hHeld ?_ ?_
    rotate_left
    · intro w' hSw
      go_simp
      try with_reducible rfl
    rotate_left
    · simp only [Act.put, List.setIfInBounds_toArray, List.set_cons_zero, List.set_cons_succ, i64_w, i32_w]
      rfl
    refine pure_ (i := 9) (N := some 42) (v := ?_) (a' := ?_) #[true, true, true, false, true, true, false, false, true, true, false, false, false, false, false, false, false, false] rfl rfl (by kernel_rfl) (fun _ _ _ h => h) (Or.inl ⟨by rfl, ?_⟩) ?_ ?_
    rotate_left
    · intro w'
      go_simp
      try with_reducible rfl
    rotate_left
    · simp only [Act.put, List.setIfInBounds_toArray, List.set_cons_zero, List.set_cons_succ, i64_w, i32_w]
      rfl
    refine pure_ (i := 10) (N := some 43) (v := ?_) (a' := ?_) #[true, true, true, false, true, true, false, false, true, true, true, false, false, false, false, false, false, false] rfl rfl (by kernel_rfl) (fun _ _ _ h => h) (Or.inl ⟨by rfl, ?_⟩) ?_ ?_
    rotate_left
    · intro w'
      go_simp
      try with_reducible rfl
    rotate_left
    · simp only [Act.put, List.setIfInBounds_toArray, List.set_cons_zero, List.set_cons_succ, i64_w, i32_w]
      rfl
    refine pure_ (i := 12) (N := some 45) (v := ?_) (a' := ?_) #[true, true, true, false, true, true, false, false, true, true, true, false, true, false, false, false, false, false] rfl rfl (by kernel_rfl) (fun _ _ _ h => h) (Or.inl ⟨by rfl, ?_⟩) ?_ ?_
    rotate_left
    · intro w'
      go_simp
      try with_reducible rfl
    rotate_left
    · simp only [Act.put, List.setIfInBounds_toArray, List.set_cons_zero, List.set_cons_succ, i64_w, i32_w]
      rfl
    refine pure_ (i := 13) (N := some 46) (v := ?_) (a' := ?_) #[true, true, true, false, true, true, false, false, true, true, true, false, true, true, false, false, false, false] rfl rfl (by kernel_rfl) (fun _ _ _ h => h) (Or.inl ⟨by rfl, ?_⟩) ?_ ?_
    rotate_left
    · intro w'
      go_simp
      try with_reducible rfl
    rotate_left
    · simp only [Act.put, List.setIfInBounds_toArray, List.set_cons_zero, List.set_cons_succ, i64_w, i32_w]
      rfl
    refine one_ (i := 3) (N := some 36) #[true, true, true, true, true, true, false, false, true, true, true, false, true, true, false, false, false, false] rfl rfl (by kernel_rfl) (by decide) (fun K hK => ?_)
    refine vgoes_ Try.func34 (by kernel_rfl) rfl #[.slice A0 n c0, .pointer (some ⟨w.heap.size, 0, none⟩)] (by rfl) rfl rfl (by rfl) (by first | rfl | (simp [Act.eval, Operand.eval]; done) | kernel_rfl) ?_
    refine (HLA.out _ HX0.out).mono ?_
    rintro e wx ⟨la, rfl, hwx, i1, i2⟩
    have hwx2 := hwx.symm
    subst hwx2
    have HL1 := Aside0.mk (And.intro i1 i2)
    clear hwx i1 i2
    refine ⟨_, rfl, ?_⟩
    refine hK.out _ _ (HX0.out.2.1) (fun hHeld => ?_)
    clear hK K
    refine norm_ (a' := ?_) ?_ ?_
    rotate_left
    · show Act.put _ (some 36) _ = _
      simp only [Act.put, List.setIfInBounds_toArray, List.set_cons_zero, List.set_cons_succ, i64_w, i32_w]
      rfl
    refine one_ (i := 6) (N := some 39) #[true, true, true, true, true, true, true, false, true, true, true, false, true, true, false, false, false, false] rfl rfl (by kernel_rfl) (by decide) (fun K hK => ?_)
    refine vgoes_ Try.func34 (by kernel_rfl) rfl #[.slice A1 m c1, .pointer (some ⟨w.heap.size, 0, none⟩)] (by rfl) rfl rfl (by rfl) (by first | rfl | (simp [Act.eval, Operand.eval]; done) | kernel_rfl) ?_
    refine (HLB.out _ HX0.out).mono ?_
    rintro e wx ⟨lb, rfl, hwx, i1, i2⟩
    have hwx2 := hwx.symm
    subst hwx2
    have HL2 := Aside0.mk (And.intro i1 i2)
    clear hwx i1 i2
    refine ⟨_, rfl, ?_⟩
    refine hK.out _ _ (HX0.out.2.1) (fun hHeld => ?_)
    clear hK K
    refine norm_ (a' := ?_) ?_ ?_
    rotate_left
    · show Act.put _ (some 39) _ = _
      simp only [Act.put, List.setIfInBounds_toArray, List.set_cons_zero, List.set_cons_succ, i64_w, i32_w]
      rfl
    refine one_ (i := 7) (N := some 40) #[true, true, true, true, true, true, true, true, true, true, true, false, true, true, false, false, false, false] rfl rfl (by kernel_rfl) (by decide) (fun K hK => ?_)
    refine vgoes_ Try.func32 (by kernel_rfl) rfl #[.slice A0 la.length c0, .slice A1 lb.length c1, .pointer (some ⟨g, 0, none⟩)] (by rfl) rfl rfl (by rfl) (by first | rfl | (simp [Act.eval, Operand.eval]; done) | kernel_rfl) ?_
    refine (halves_small _ HL1.out.1 HL2.out.1 (.inl (by have := Hn.lowa HH.out HL1.out.2; omega)) (by have := Hn.lowa HH.out HL1.out.2; have := Hn.lowb HH.out HL2.out.2; omega)).mono ?_
    rintro e u1 ⟨Ap, cp, p, rfl, hb1, i1, i2⟩
    have HX1 := Aside0.mk (HX0.out.step hb1)
    have HP := Aside0.mk (And.intro i1 i2)
    have HPV := Aside0.mk (i2.2.1.trans (by rw [HL1.out.2.1, HL2.out.2.1]))
    clear hb1 i1 i2
    refine ⟨_, rfl, ?_⟩
    refine hK.out _ _ (HX1.out.2.1) (fun hHeld => ?_)
    clear hK K
    refine norm_ (a' := ?_) ?_ ?_
    rotate_left
    · show Act.put _ (some 40) _ = _
      simp only [Act.put, List.setIfInBounds_toArray, List.set_cons_zero, List.set_cons_succ, i64_w, i32_w]
      rfl
    refine one_ (i := 11) (N := some 44) #[true, true, true, true, true, true, true, true, true, true, true, true, true, true, false, false, false, false] rfl rfl (by kernel_rfl) (by decide) (fun K hK => ?_)
    refine vgoes_ Try.func35 (by kernel_rfl) rfl #[.slice A0 n c0, .pointer (some ⟨w.heap.size, 0, none⟩)] (by rfl) rfl rfl (by rfl) (by first | rfl | (simp [Act.eval, Operand.eval]; done) | kernel_rfl) ?_
    refine (HHA.out _ HX1.out).mono ?_
    rintro e wx ⟨A2, c2, rfl, hwx, i1⟩
    have hwx2 := hwx.symm
    subst hwx2
    have HH1 := Aside0.mk i1
    clear hwx i1
    refine ⟨_, rfl, ?_⟩
    refine hK.out _ _ (HX1.out.2.1) (fun hHeld => ?_)
    clear hK K
    refine norm_ (a' := ?_) ?_ ?_
    rotate_left
    · show Act.put _ (some 44) _ = _
      simp only [Act.put, List.setIfInBounds_toArray, List.set_cons_zero, List.set_cons_succ, i64_w, i32_w]
      rfl
    refine one_ (i := 14) (N := some 47) #[true, true, true, true, true, true, true, true, true, true, true, true, true, true, true, false, false, false] rfl rfl (by kernel_rfl) (by decide) (fun K hK => ?_)
    refine vgoes_ Try.func35 (by kernel_rfl) rfl #[.slice A1 m c1, .pointer (some ⟨w.heap.size, 0, none⟩)] (by rfl) rfl rfl (by rfl) (by first | rfl | (simp [Act.eval, Operand.eval]; done) | kernel_rfl) ?_
    refine (HHB.out _ HX1.out).mono ?_
    rintro e wx ⟨A3, c3, rfl, hwx, i1⟩
    have hwx2 := hwx.symm
    subst hwx2
    have HH2 := Aside0.mk i1
    clear hwx i1
    refine ⟨_, rfl, ?_⟩
    refine hK.out _ _ (HX1.out.2.1) (fun hHeld => ?_)
    clear hK K
    refine norm_ (a' := ?_) ?_ ?_
    rotate_left
    · show Act.put _ (some 47) _ = _
      simp only [Act.put, List.setIfInBounds_toArray, List.set_cons_zero, List.set_cons_succ, i64_w, i32_w]
      rfl
    refine one_ (i := 15) (N := some 48) #[true, true, true, true, true, true, true, true, true, true, true, true, true, true, true, true, false, false] rfl rfl (by kernel_rfl) (by decide) (fun K hK => ?_)
    refine vgoes_ Try.func32 (by kernel_rfl) rfl #[.slice A2 (a.drop h).length c2, .slice A3 (b.drop h).length c3, .pointer (some ⟨g, 0, none⟩)] (by rfl) rfl rfl (by rfl) (by first | rfl | (simp [Act.eval, Operand.eval]; done) | kernel_rfl) ?_
    refine (halves_small _ HH1.out HH2.out (.inl (by have := Hn.higha HH.out; omega)) (by have := Hn.higha HH.out; have := Hn.highb HH.out; omega)).mono ?_
    rintro e u2 ⟨Aq, cq, q, rfl, hb1, i1, i2⟩
    have HX2 := Aside0.mk (HX1.out.step hb1)
    have HP2 := Aside0.mk (And.intro (HP.out.1.below hb1) HP.out.2)
    have HQ := Aside0.mk (And.intro i1 i2)
    clear hb1 i1 i2
    refine ⟨_, rfl, ?_⟩
    refine hK.out _ _ (HX2.out.2.1) (fun hHeld => ?_)
    clear hK K
    refine norm_ (a' := ?_) ?_ ?_
    rotate_left
    · show Act.put _ (some 48) _ = _
      simp only [Act.put, List.setIfInBounds_toArray, List.set_cons_zero, List.set_cons_succ, i64_w, i32_w]
      rfl
    refine pure_ (i := 16) (N := some 9) (v := ?_) (a' := ?_) #[true, true, true, true, true, true, true, true, true, true, true, true, true, true, true, true, true, false] rfl rfl (by kernel_rfl) (fun _ _ _ h => h) (Or.inl ⟨by rfl, ?_⟩) ?_ ?_
    rotate_left
    · intro w'
      go_simp
      try with_reducible rfl
    rotate_left
    · simp only [Act.put, List.setIfInBounds_toArray, List.set_cons_zero, List.set_cons_succ, i64_w, i32_w]
      rfl
    refine pure_ (i := 17) (N := some 10) (v := ?_) (a' := ?_) #[true, true, true, true, true, true, true, true, true, true, true, true, true, true, true, true, true, true] rfl rfl (by kernel_rfl) (fun _ _ _ h => h) (Or.inl ⟨by rfl, ?_⟩) ?_ ?_
    rotate_left
    · intro w'
      go_simp
      try with_reducible rfl
    rotate_left
    · simp only [Act.put, List.setIfInBounds_toArray, List.set_cons_zero, List.set_cons_succ, i64_w, i32_w]
      rfl
    refine done_ (by kernel_rfl) ?_
    have HPQ := Aside0.mk (And.intro HPV.out (And.intro HP.out.2.1 (And.intro (show p.length ≤ 40 by have := HP.out.2.2.2; have := Hn.lowa HH.out HL1.out.2; have := Hn.lowb HH.out HL2.out.2; omega) (And.intro HQ.out.2.2.1 (And.intro HQ.out.2.1 (show q.length ≤ 40 by have := HQ.out.2.2.2; have := Hn.higha HH.out; have := Hn.highb HH.out; omega))))))
    have HX3 := Aside0.mk (HX2.out.step (below_drew (Below.refl _ u2)))
    have HP3 := Aside0.mk (show Rd u2.drew Ap cp p ∧ Rd u2.drew Aq cq q from ⟨HP2.out.1.below (below_drew (Below.refl _ u2)), HQ.out.1.below (below_drew (Below.refl _ u2))⟩)
    clear HL1 HL2 HP HPV HH1 HH2 HX2 HP2 HQ HX0 HX1 hHeld mx1 mx2 q1
    go_upto_region 7 with fail
    refine start_ (n := 19) (S := fun w' => w'.cell? ⟨g, 0, none⟩ = some (.func (.func 32) #[] #[.pointer (some ⟨g, 0, none⟩)])) (ds := []) #[false, false, false, false, false, false, false, false, false, false, false, false, false, false, false, false, false, false, false] (by kernel_rfl) rfl rfl HX3.out.2.1 (fun hHeld => ?_)
    generalize u2.drew = u3 at HX3 HP3 hHeld ⊢
    refine take_ (i := 0) (N := some 49) (v := ?_) (a' := ?_) #[true, false, false, false, false, false, false, false, false, false, false, false, false, false, false, false, false, false, false] rfl rfl (by kernel_rfl) (fun _ _ _ h => h) (Or.inl ⟨by rfl, ?_⟩) hHeld ?_ ?_
    rotate_left
    · intro w' hSw
      go_simp
      try with_reducible rfl
    rotate_left
    · simp only [Act.put, List.setIfInBounds_toArray, List.set_cons_zero, List.set_cons_succ, i64_w, i32_w]
      rfl
    refine pure_ (i := 1) (N := some 50) (v := ?_) (a' := ?_) #[true, true, false, false, false, false, false, false, false, false, false, false, false, false, false, false, false, false, false] rfl rfl (by kernel_rfl) (fun _ _ _ h => h) (Or.inl ⟨by rfl, ?_⟩) ?_ ?_
    rotate_left
    · intro w'
      go_simp
      try with_reducible rfl
    rotate_left
    · simp only [Act.put, List.setIfInBounds_toArray, List.set_cons_zero, List.set_cons_succ, i64_w, i32_w]
      rfl
    refine pure_ (i := 2) (N := some 51) (v := ?_) (a' := ?_) #[true, true, true, false, false, false, false, false, false, false, false, false, false, false, false, false, false, false, false] rfl rfl (by kernel_rfl) (fun _ _ _ h => h) (Or.inl ⟨by rfl, ?_⟩) ?_ ?_
    rotate_left
    · intro w'
      go_simp
      try with_reducible rfl
    rotate_left
    · simp only [Act.put, List.setIfInBounds_toArray, List.set_cons_zero, List.set_cons_succ, i64_w, i32_w]
      rfl
    refine pure_ (i := 4) (N := some 53) (v := ?_) (a' := ?_) #[true, true, true, false, true, false, false, false, false, false, false, false, false, false, false, false, false, false, false] rfl rfl (by kernel_rfl) (fun _ _ _ h => h) (Or.inl ⟨by rfl, ?_⟩) ?_ ?_
    rotate_left
    · intro w'
      go_simp
      try with_reducible rfl
    rotate_left
    · simp only [Act.put, List.setIfInBounds_toArray, List.set_cons_zero, List.set_cons_succ, i64_w, i32_w]
      rfl
    refine pure_ (i := 5) (N := some 54) (v := ?_) (a' := ?_) #[true, true, true, false, true, true, false, false, false, false, false, false, false, false, false, false, false, false, false] rfl rfl (by kernel_rfl) (fun _ _ _ h => h) (Or.inl ⟨by rfl, ?_⟩) ?_ ?_
    rotate_left
    · intro w'
      go_simp
      try with_reducible rfl
    rotate_left
    · simp only [Act.put, List.setIfInBounds_toArray, List.set_cons_zero, List.set_cons_succ, i64_w, i32_w]
      rfl
    refine pure_ (i := 9) (N := some 58) (v := ?_) (a' := ?_) #[true, true, true, false, true, true, false, false, false, true, false, false, false, false, false, false, false, false, false] rfl rfl (by kernel_rfl) (fun _ _ _ h => h) (Or.inl ⟨by rfl, ?_⟩) ?_ ?_
    rotate_left
    · intro w'
      go_simp
      try with_reducible rfl
    rotate_left
    · simp only [Act.put, List.setIfInBounds_toArray, List.set_cons_zero, List.set_cons_succ, i64_w, i32_w]
      rfl
    refine pure_ (i := 10) (N := some 59) (v := ?_) (a' := ?_) #[true, true, true, false, true, true, false, false, false, true, true, false, false, false, false, false, false, false, false] rfl rfl (by kernel_rfl) (fun _ _ _ h => h) (Or.inl ⟨by rfl, ?_⟩) ?_ ?_
    rotate_left
    · intro w'
      go_simp
      try with_reducible rfl
    rotate_left
    · simp only [Act.put, List.setIfInBounds_toArray, List.set_cons_zero, List.set_cons_succ, i64_w, i32_w]
      rfl
    refine pure_ (i := 12) (N := some 61) (v := ?_) (a' := ?_) #[true, true, true, false, true, true, false, false, false, true, true, false, true, false, false, false, false, false, false] rfl rfl (by kernel_rfl) (fun _ _ _ h => h) (Or.inl ⟨by rfl, ?_⟩) ?_ ?_
    rotate_left
    · intro w'
      go_simp
      try with_reducible rfl
    rotate_left
    · simp only [Act.put, List.setIfInBounds_toArray, List.set_cons_zero, List.set_cons_succ, i64_w, i32_w]
      rfl
    refine pure_ (i := 13) (N := some 62) (v := ?_) (a' := ?_) #[true, true, true, false, true, true, false, false, false, true, true, false, true, true, false, false, false, false, false] rfl rfl (by kernel_rfl) (fun _ _ _ h => h) (Or.inl ⟨by rfl, ?_⟩) ?_ ?_
    rotate_left
    · intro w'
      go_simp
      try with_reducible rfl
    rotate_left
    · simp only [Act.put, List.setIfInBounds_toArray, List.set_cons_zero, List.set_cons_succ, i64_w, i32_w]
      rfl
    refine one_ (i := 3) (N := some 52) #[true, true, true, true, true, true, false, false, false, true, true, false, true, true, false, false, false, false, false] rfl rfl (by kernel_rfl) (by decide) (fun K hK => ?_)
    refine vgoes_ Try.func34 (by kernel_rfl) rfl #[.slice A0 n c0, .pointer (some ⟨w.heap.size, 0, none⟩)] (by rfl) rfl rfl (by rfl) (by first | rfl | (simp [Act.eval, Operand.eval]; done) | kernel_rfl) ?_
    refine (HLA.out _ HX3.out).mono ?_
    rintro e wx ⟨xa, rfl, hwx, i1, i2⟩
    have hwx2 := hwx.symm
    subst hwx2
    have HL3 := Aside0.mk (And.intro i1 i2)
    clear hwx i1 i2
    refine ⟨_, rfl, ?_⟩
    refine hK.out _ _ (HX3.out.2.1) (fun hHeld => ?_)
    clear hK K
    refine norm_ (a' := ?_) ?_ ?_
    rotate_left
    · show Act.put _ (some 52) _ = _
      simp only [Act.put, List.setIfInBounds_toArray, List.set_cons_zero, List.set_cons_succ, i64_w, i32_w]
      rfl
    refine one_ (i := 6) (N := some 55) #[true, true, true, true, true, true, true, false, false, true, true, false, true, true, false, false, false, false, false] rfl rfl (by kernel_rfl) (by decide) (fun K hK => ?_)
    refine vgoes_ Try.func35 (by kernel_rfl) rfl #[.slice A0 n c0, .pointer (some ⟨w.heap.size, 0, none⟩)] (by rfl) rfl rfl (by rfl) (by first | rfl | (simp [Act.eval, Operand.eval]; done) | kernel_rfl) ?_
    refine (HHA.out _ HX3.out).mono ?_
    rintro e wx ⟨A4, c4, rfl, hwx, i1⟩
    have hwx2 := hwx.symm
    subst hwx2
    have HH3 := Aside0.mk i1
    clear hwx i1
    refine ⟨_, rfl, ?_⟩
    refine hK.out _ _ (HX3.out.2.1) (fun hHeld => ?_)
    clear hK K
    refine norm_ (a' := ?_) ?_ ?_
    rotate_left
    · show Act.put _ (some 55) _ = _
      simp only [Act.put, List.setIfInBounds_toArray, List.set_cons_zero, List.set_cons_succ, i64_w, i32_w]
      rfl
    refine one_ (i := 7) (N := some 56) #[true, true, true, true, true, true, true, true, false, true, true, false, true, true, false, false, false, false, false] rfl rfl (by kernel_rfl) (by decide) (fun K hK => ?_)
    refine goes_ Try.func36 (by kernel_rfl) rfl #[.slice A0 xa.length c0, .slice A4 (a.drop h).length c4] (by rfl) rfl rfl (by first | rfl | (simp [Act.eval, Operand.eval]; done) | kernel_rfl) ?_
    refine (sum_rd _ HL3.out.1 HH3.out (by have := Hn.lowa HH.out HL3.out.2; omega) (by have := Hn.higha HH.out; omega)).mono ?_
    rintro e u4 ⟨As, cs, sa, rfl, hb1, i1, i2⟩
    have HX4 := Aside0.mk (HX3.out.step hb1)
    have HP4 := Aside0.mk (And.intro (HP3.out.1.below hb1) (HP3.out.2.below hb1))
    have HSA := Aside0.mk (And.intro i1 i2)
    clear hb1 i1 i2
    refine ⟨_, rfl, ?_⟩
    refine hK.out _ _ (HX4.out.2.1) (fun hHeld => ?_)
    clear hK K
    refine norm_ (a' := ?_) ?_ ?_
    rotate_left
    · show Act.put _ (some 56) _ = _
      simp only [Act.put, List.setIfInBounds_toArray, List.set_cons_zero, List.set_cons_succ, i64_w, i32_w]
      rfl
    refine one_ (i := 8) (N := some 57) #[true, true, true, true, true, true, true, true, true, true, true, false, true, true, false, false, false, false, false] rfl rfl (by kernel_rfl) (by decide) (fun K hK => ?_)
    refine goes_ Try.func27 (by kernel_rfl) rfl #[.slice As sa.length cs] (by rfl) rfl rfl (by first | rfl | (simp [Act.eval, Operand.eval]; done) | kernel_rfl) ?_
    refine (trim_rd _ HSA.out.1 (by have := HSA.out.2.2; have := Hn.lowa HH.out HL3.out.2; have := Hn.higha HH.out; omega)).mono ?_
    rintro e wx ⟨ta, rfl, hwx, i1, i2, i3, i4⟩
    have hwx2 := hwx.symm
    subst hwx2
    have HTA := Aside0.mk (And.intro i1 (sum_half HL3.out.2 HSA.out.2 i2 i4 (Hn.lowa HH.out HL3.out.2) (Hn.higha HH.out)))
    clear hwx i1 i2 i3 i4
    refine ⟨_, rfl, ?_⟩
    refine hK.out _ _ (HX4.out.2.1) (fun hHeld => ?_)
    clear hK K
    refine norm_ (a' := ?_) ?_ ?_
    rotate_left
    · show Act.put _ (some 57) _ = _
      simp only [Act.put, List.setIfInBounds_toArray, List.set_cons_zero, List.set_cons_succ, i64_w, i32_w]
      rfl
    refine one_ (i := 11) (N := some 60) #[true, true, true, true, true, true, true, true, true, true, true, true, true, true, false, false, false, false, false] rfl rfl (by kernel_rfl) (by decide) (fun K hK => ?_)
    refine vgoes_ Try.func34 (by kernel_rfl) rfl #[.slice A1 m c1, .pointer (some ⟨w.heap.size, 0, none⟩)] (by rfl) rfl rfl (by rfl) (by first | rfl | (simp [Act.eval, Operand.eval]; done) | kernel_rfl) ?_
    refine (HLB.out _ HX4.out).mono ?_
    rintro e wx ⟨xb, rfl, hwx, i1, i2⟩
    have hwx2 := hwx.symm
    subst hwx2
    have HL4 := Aside0.mk (And.intro i1 i2)
    clear hwx i1 i2
    refine ⟨_, rfl, ?_⟩
    refine hK.out _ _ (HX4.out.2.1) (fun hHeld => ?_)
    clear hK K
    refine norm_ (a' := ?_) ?_ ?_
    rotate_left
    · show Act.put _ (some 60) _ = _
      simp only [Act.put, List.setIfInBounds_toArray, List.set_cons_zero, List.set_cons_succ, i64_w, i32_w]
      rfl
    refine one_ (i := 14) (N := some 63) #[true, true, true, true, true, true, true, true, true, true, true, true, true, true, true, false, false, false, false] rfl rfl (by kernel_rfl) (by decide) (fun K hK => ?_)
    refine vgoes_ Try.func35 (by kernel_rfl) rfl #[.slice A1 m c1, .pointer (some ⟨w.heap.size, 0, none⟩)] (by rfl) rfl rfl (by rfl) (by first | rfl | (simp [Act.eval, Operand.eval]; done) | kernel_rfl) ?_
    refine (HHB.out _ HX4.out).mono ?_
    rintro e wx ⟨A5, c5, rfl, hwx, i1⟩
    have hwx2 := hwx.symm
    subst hwx2
    have HH4 := Aside0.mk i1
    clear hwx i1
    refine ⟨_, rfl, ?_⟩
    refine hK.out _ _ (HX4.out.2.1) (fun hHeld => ?_)
    clear hK K
    refine norm_ (a' := ?_) ?_ ?_
    rotate_left
    · show Act.put _ (some 63) _ = _
      simp only [Act.put, List.setIfInBounds_toArray, List.set_cons_zero, List.set_cons_succ, i64_w, i32_w]
      rfl
    refine one_ (i := 15) (N := some 64) #[true, true, true, true, true, true, true, true, true, true, true, true, true, true, true, true, false, false, false] rfl rfl (by kernel_rfl) (by decide) (fun K hK => ?_)
    refine goes_ Try.func36 (by kernel_rfl) rfl #[.slice A1 xb.length c1, .slice A5 (b.drop h).length c5] (by rfl) rfl rfl (by first | rfl | (simp [Act.eval, Operand.eval]; done) | kernel_rfl) ?_
    refine (sum_rd _ HL4.out.1 HH4.out (by have := Hn.lowb HH.out HL4.out.2; omega) (by have := Hn.highb HH.out; omega)).mono ?_
    rintro e u5 ⟨At, ct, sb, rfl, hb1, i1, i2⟩
    have HX5 := Aside0.mk (HX4.out.step hb1)
    have HP5 := Aside0.mk (And.intro (HP4.out.1.below hb1) (And.intro (HP4.out.2.below hb1) (HTA.out.1.below hb1)))
    have HSB := Aside0.mk (And.intro i1 i2)
    clear hb1 i1 i2
    refine ⟨_, rfl, ?_⟩
    refine hK.out _ _ (HX5.out.2.1) (fun hHeld => ?_)
    clear hK K
    refine norm_ (a' := ?_) ?_ ?_
    rotate_left
    · show Act.put _ (some 64) _ = _
      simp only [Act.put, List.setIfInBounds_toArray, List.set_cons_zero, List.set_cons_succ, i64_w, i32_w]
      rfl
    refine one_ (i := 16) (N := some 65) #[true, true, true, true, true, true, true, true, true, true, true, true, true, true, true, true, true, false, false] rfl rfl (by kernel_rfl) (by decide) (fun K hK => ?_)
    refine goes_ Try.func27 (by kernel_rfl) rfl #[.slice At sb.length ct] (by rfl) rfl rfl (by first | rfl | (simp [Act.eval, Operand.eval]; done) | kernel_rfl) ?_
    refine (trim_rd _ HSB.out.1 (by have := HSB.out.2.2; have := Hn.lowb HH.out HL4.out.2; have := Hn.highb HH.out; omega)).mono ?_
    rintro e wx ⟨tb, rfl, hwx, i1, i2, i3, i4⟩
    have hwx2 := hwx.symm
    subst hwx2
    have HTB := Aside0.mk (And.intro i1 (sum_half HL4.out.2 HSB.out.2 i2 i4 (Hn.lowb HH.out HL4.out.2) (Hn.highb HH.out)))
    clear hwx i1 i2 i3 i4
    refine ⟨_, rfl, ?_⟩
    refine hK.out _ _ (HX5.out.2.1) (fun hHeld => ?_)
    clear hK K
    refine norm_ (a' := ?_) ?_ ?_
    rotate_left
    · show Act.put _ (some 65) _ = _
      simp only [Act.put, List.setIfInBounds_toArray, List.set_cons_zero, List.set_cons_succ, i64_w, i32_w]
      rfl
    refine one_ (i := 17) (N := some 66) #[true, true, true, true, true, true, true, true, true, true, true, true, true, true, true, true, true, true, false] rfl rfl (by kernel_rfl) (by decide) (fun K hK => ?_)
    refine vgoes_ Try.func32 (by kernel_rfl) rfl #[.slice As ta.length cs, .slice At tb.length ct, .pointer (some ⟨g, 0, none⟩)] (by rfl) rfl rfl (by rfl) (by first | rfl | (simp [Act.eval, Operand.eval]; done) | kernel_rfl) ?_
    refine (halves_small _ HP5.out.2.2 HTB.out.1 (.inl (by have := HTA.out.2.2; omega)) (by have := HTA.out.2.2; have := HTB.out.2.2; omega)).mono ?_
    rintro e u6 ⟨Am, cm, mm, rfl, hb1, i1, i2⟩
    have HX6 := Aside0.mk (HX5.out.step hb1)
    have HP6 := Aside0.mk (And.intro (HP5.out.1.below hb1) (HP5.out.2.1.below hb1))
    have HMV := Aside0.mk (And.intro i1 (And.intro i2.1 (And.intro (i2.2.1.trans (by rw [HTA.out.2.1, HTB.out.2.1])) (show mm.length ≤ 100 by have := i2.2.2; have := HTA.out.2.2; have := HTB.out.2.2; omega))))
    clear hb1 i1 i2
    refine ⟨_, rfl, ?_⟩
    refine hK.out _ _ (HX6.out.2.1) (fun hHeld => ?_)
    clear hK K
    refine norm_ (a' := ?_) ?_ ?_
    rotate_left
    · show Act.put _ (some 66) _ = _
      simp only [Act.put, List.setIfInBounds_toArray, List.set_cons_zero, List.set_cons_succ, i64_w, i32_w]
      rfl
    refine pure_ (i := 18) (N := some 11) (v := ?_) (a' := ?_) #[true, true, true, true, true, true, true, true, true, true, true, true, true, true, true, true, true, true, true] rfl rfl (by kernel_rfl) (fun _ _ _ h => h) (Or.inl ⟨by rfl, ?_⟩) ?_ ?_
    rotate_left
    · intro w'
      go_simp
      try with_reducible rfl
    rotate_left
    · simp only [Act.put, List.setIfInBounds_toArray, List.set_cons_zero, List.set_cons_succ, i64_w, i32_w]
      rfl
    refine done_ (by kernel_rfl) ?_
    have HV := Aside0.mk (show Hv (V (a.take h)) (V (a.drop h)) (V (b.take h)) (V (b.drop h)) (V p) (V q) (V mm) from hv_of HA.out.l HB.out.l HPQ.out.1 HPQ.out.2.2.2.1 HMV.out.2.2.1)
    have HM := Aside0.mk (show Rt p ∧ Rt q ∧ Rt mm ∧ p.length ≤ 40 ∧ q.length ≤ 40 ∧ mm.length ≤ 100 from ⟨HPQ.out.2.1, HPQ.out.2.2.2.2.1, HMV.out.2.1, HPQ.out.2.2.1, HPQ.out.2.2.2.2.2, HMV.out.2.2.2⟩)
    have HP7 := Aside0.mk (And.intro HP6.out.1 (And.intro HP6.out.2 HMV.out.1))
    clear HX3 HP3 HL3 HH3 HX4 HP4 HSA HTA HL4 HH4 HX5 HP5 HSB HTB HMV HP6 hHeld HLA HLB HHA HHB HPQ
    go_wp2_with fail
    refine (less_rd u6 HP7.out.2.2 HP7.out.1 (by have := HM.out; omega) (Rt.len_le HP7.out.1.l HP7.out.2.2.l HM.out.1 HV.out.l1.2.2.1) HV.out.l1.2.2.1).mono ?_
    rintro e u7 ⟨A7, c7, l7, rfl, hb1, i1, i2, i3⟩
    have HX7 := Aside0.mk (HX6.out.step hb1)
    have HP8 := Aside0.mk (And.intro (HP7.out.1.below hb1) (And.intro (HP7.out.2.1.below hb1) i1))
    have HL7 := Aside0.mk (And.intro i2 i3)
    clear hb1 i1 i2 i3 HX6 HP7
    go_wp2_with fail
    refine (trim_rd u7 HP8.out.2.2 (by have := HM.out; have := HL7.out; omega)).mono ?_
    rintro e wx ⟨t7, rfl, hwx, i1, i2, i3, i4⟩
    have hwx2 := hwx.symm
    subst hwx2
    have HT7 := Aside0.mk (show Rd u7 A7 c7 t7 ∧ V t7 = V mm - V p ∧ Rt t7 ∧ t7.length ≤ 100 from ⟨i1, by rw [i2, HL7.out.2], i3, by have := HM.out; have := HL7.out.1; omega⟩)
    clear hwx i1 i2 i3 i4
    go_wp2_with fail
    refine (less_rd u7 HT7.out.1 HP8.out.2.1 (by have := HT7.out; omega) (Rt.len_le HP8.out.2.1.l HT7.out.1.l HM.out.2.1 (by rw [HT7.out.2.1]; exact HV.out.l1.2.2.2)) (by rw [HT7.out.2.1]; exact HV.out.l1.2.2.2)).mono ?_
    rintro e u8 ⟨A8, c8, l8, rfl, hb1, i1, i2, i3⟩
    have HX8 := Aside0.mk (HX7.out.step hb1)
    have HP9 := Aside0.mk (And.intro (HP8.out.1.below hb1) (And.intro (HP8.out.2.1.below hb1) i1))
    have HL8 := Aside0.mk (show l8.length ≤ 100 ∧ V l8 = V mm - V p - V q from ⟨by have := HT7.out; omega, by rw [i3, HT7.out.2.1]⟩)
    clear hb1 i1 i2 i3 HX7 HP8 HL7 HT7
    go_wp2_with fail
    refine (trim_rd u8 HP9.out.2.2 (by have := HL8.out; omega)).mono ?_
    rintro e wx ⟨t8, rfl, hwx, i1, i2, i3, i4⟩
    have hwx2 := hwx.symm
    subst hwx2
    have HT8 := Aside0.mk (show Rd u8 A8 c8 t8 ∧ V t8 = V mm - V p - V q ∧ Rt t8 ∧ t8.length ≤ 100 from ⟨i1, by rw [i2, HL8.out.2], i3, by have := HL8.out.1; omega⟩)
    clear hwx i1 i2 i3 i4 HL8
    obtain ⟨N, hN⟩ : ∃ N, N = n + m + 1 := ⟨_, rfl⟩
    have w1 : wrap64 ((n : Int) + (m : Int)) = (n : Int) + (m : Int) := by have := HH.out; unfold Hn at this; unfold wrap64; omega
    have w2 : wrap64 ((n : Int) + (m : Int) + 1) = (N : Int) := by have := HH.out; unfold Hn at this; unfold wrap64; omega
    have w3 : wrap64 (wrap64 ((n : Int) + (m : Int)) + 1) = (N : Int) := by rw [w1, w2]
    have hN0 : (0 : Int) ≤ (N : Int) := by omega
    have hNk : (N : Int).toNat * 8 ≤ 281474976710656 := by have := HH.out; unfold Hn at this; omega
    have HNN := Aside0.mk hN
    clear hN
    go_upto_region 10 with ((with_reducible refine gate_dst (N := 80) rfl ?_); refine Kd.R_make (Kd.int .u64) u8.heap.size 36 rfl (N := 80) rfl 23 _ _ rfl (N : Int) (by first | rfl | exact congrArg _ w3 | exact congrArg _ w2) (by first | rfl | exact congrArg _ w3 | exact congrArg _ w2) Try.underlying23 (.int .u64 0) 8 info36 rfl (by decide) (by omega) 0 (ok := fun _ => True) (okp := fun _ => True) rfl (fun _ hk => hk) trivial hN0 hNk (Below.refl _ _) (Nat.le_refl _) ?_; intro v9 u9 ho9 hb9 _ _; have HO9 := Aside0.mk ho9; have HB9 := Aside0.mk hb9; clear ho9 hb9)
    go_wp2_with ((with_reducible refine gate_builtin (b := .copy) (xs := #[.tmp 81, .tmp 82]) rfl ?_); go_loud (refine Kd.R_copy (0 : Int) u8.heap.size rfl (.tmp 81) (.tmp 82) 23 23 36 rfl Try.underlying23 (by kernel_rfl) v9 _ p _ p.length _ (fun _ => True) rfl rfl HO9.out (HP9.out.1.below HB9.out).r HB9.out HB9.out.size ?_); intro u10 ho10 hb10 _; have HO10 := Aside0.mk (copied ho10 HM.out.2.2.2.1 HNN.out HH.out); have HB10 := Aside0.mk hb10; have hc10 : u10.cell? ⟨w.heap.size, 0, none⟩ = some (.int .i64 (h : Int)) := (HX8.out.step hb10).2.2; clear ho10 hb10)
    clear w1 w2 w3 hN0 hNk
    obtain ⟨o0, ho0⟩ : ∃ o0, o0 = p ++ List.replicate (N - p.length) (0 : Int) := ⟨_, rfl⟩
    rw [← ho0] at HO10
    have HS0 := Aside0.mk (start_sum HP9.out.1.l HM.out.2.2.2.1 HNN.out HH.out ho0)
    clear ho0
    have HAB := Aside0.mk (all_sum HA.out.l HB.out.l HV.out HNN.out HH.out)
    refine (into_rd u8 u10 HB10.out HO10.out HS0.out.1 HT8.out.1 (by have := HS0.out.2.1; have := HAB.out.1; omega) (by have := into1 HT8.out.1.l HT8.out.2.2.1 HT8.out.2.1 HV.out HAB.out; have := HS0.out.2.1; omega) (by rw [HS0.out.2.1]; exact into1v HT8.out.2.1 HS0.out.2.2 HV.out HAB.out)).mono ?_
    rintro e u11 ⟨o1, rfl, ho1, hb1, i1, i2, i3⟩
    have HO11 := Aside0.mk ho1
    have HB11 := Aside0.mk hb1
    have HS1 := Aside0.mk (show Lim o1 ∧ o1.length = N ∧ V o1 = V p + (V mm - V p - V q) * B ^ h from ⟨i1, by rw [i2, HS0.out.2.1], by rw [i3, HS0.out.2.2, HT8.out.2.1]⟩)
    have hc11 : u11.cell? ⟨w.heap.size, 0, none⟩ = some (.int .i64 (h : Int)) := (HX8.out.step hb1).2.2
    clear hc10 ho1 hb1 i1 i2 i3 HO10 HB10 HS0
    obtain ⟨t2, ht2⟩ : ∃ t2, t2 = 2 * h := ⟨_, rfl⟩
    have w4 : wrap64 (2 * (h : Int)) = (t2 : Int) := by have := HH.out; unfold Hn at this; unfold wrap64; omega
    have HT2 := Aside0.mk ht2
    clear ht2
    go_wp2_with fail
    refine (into_rd u8 u11 HB11.out HO11.out HS1.out.1 HP9.out.2.1 (by have := HS1.out.2.1; have := HAB.out.1; omega) (by have := into2 HP9.out.2.1.l HM.out.2.1 HV.out HAB.out HT2.out; have := HS1.out.2.1; omega) (by rw [HS1.out.2.1, HS1.out.2.2]; exact into2v HV.out HAB.out HT2.out)).mono ?_
    rintro e u12 ⟨o2, rfl, ho1, hb1, i1, i2, i3⟩
    have HO12 := Aside0.mk ho1
    have HB12 := Aside0.mk hb1
    have HS2 := Aside0.mk (show Lim o2 ∧ o2.length = N ∧ V o2 = V a * V b from ⟨i1, by rw [i2, HS1.out.2.1], by rw [i3, HS1.out.2.2]; exact into2e HV.out HT2.out⟩)
    clear hc11 ho1 hb1 i1 i2 i3 HO11 HB11 HS1 w4
    obtain ⟨A12, c12, hv12, hrd12⟩ := rd_of_R HO12.out HS2.out.1
    have HRD := Aside0.mk hrd12
    subst hv12
    clear hrd12
    go_wp2_with fail
    refine (trim_rd u12 HRD.out (by have := HS2.out.2.1; have := HAB.out.1; omega)).mono ?_
    rintro e wx ⟨r, rfl, hwx, i1, i2, i3, i4⟩
    have hwx2 := hwx.symm
    subst hwx2
    have HR := Aside0.mk (show Rd u12 A12 c12 r ∧ V r = V a * V b ∧ Rt r from ⟨i1, by rw [i2, HS2.out.2.2], i3⟩)
    clear hwx i1 i2 i3 i4
    go_wp2_with fail
    go_ret
    exact ⟨A12, c12, r, rfl, HX8.out.1.trans (HB12.out.mono HX8.out.1.size), HR.out.1, HR.out.2.2, HR.out.2.1, prod_len HA.out.l HB.out.l HR.out.1.l HR.out.2.2 HR.out.2.1⟩
end
end Go.Proofs.Ytdaelbihfdlgkaa.Ni
