/- Division by two limbs and more, walked. -/
import Derived.Test.YtdaelbihfdlgkaaLk
import Derived.Test.YtdaelbihfdlgkaaWTab
import Derived.Deep.RegionWith
import Derived.Outline
namespace Go.Proofs.Ytdaelbihfdlgkaa.Ll
open Go.RowKit Go.Proofs.Ytdaelbihfdlgkaa.Na Go.Proofs.Ytdaelbihfdlgkaa.Nv Go.Proofs.Ytdaelbihfdlgkaa.Ns Go.Proofs.Ytdaelbihfdlgkaa.Nt Go.Proofs.Ytdaelbihfdlgkaa.Np Go.Proofs.Ytdaelbihfdlgkaa.Nq Go.Proofs.Ytdaelbihfdlgkaa.No Go.Proofs.Ytdaelbihfdlgkaa.Nc Go.Proofs.Ytdaelbihfdlgkaa.Lo Go.Proofs.Ytdaelbihfdlgkaa.Lk Go.Proofs.Ytdaelbihfdlgkaa.Fns Go.Proofs.YtdaelbihfdlgkaaW.PrintWords Go.Proofs.YtdaelbihfdlgkaaW.PrintLast Go.Proofs.YtdaelbihfdlgkaaW.PrintMore
set_option linter.unusedVariables false
set_option linter.unusedSimpArgs false
variable {A0 A1 : Option Addr} {c0 c1 : Nat} {a b : List Int}
theorem lz_ok {x : Int} (h : 0 < x ∧ x < B) : ∃ s L : Nat, bits_LeadingZeros64.f x = some (s : Int) ∧ s < 64 ∧ L + s = 64 ∧ x < 2 ^ L := by
  obtain ⟨L, h1, h2, h3, h4⟩ := Nw.len64_ok h
  refine ⟨64 - L, L, ?_, by omega, by omega, h4⟩
  unfold bits_LeadingZeros64.f
  rw [h1, Option.bind_some]
  congr 1
  unfold wrap64
  omega
theorem rd_R {w : World} {base g n c : Nat} {ok : Nat → Prop} {xs : List Int} (h : (Kd.int .u64).R 36 w base ok (.slice (some ⟨g, 0, none⟩) n c) xs) (l : Lim xs) : Rd w (some ⟨g, 0, none⟩) c xs := by
  have e := Kd.R_reads' h
  exact ⟨e.2.2, e.1 ▸ e.2.1, l⟩
theorem rd_eq {w : World} {A : Option Addr} {c c' : Nat} {xs ys : List Int} (h : Rd w A c xs) (h' : Rd w A c' ys) (hl : xs.length = ys.length) : xs = ys := by
  refine List.ext_getElem hl (fun i h1 h2 => ?_)
  obtain ⟨ad, e, hc⟩ := h.at i h1
  obtain ⟨ad', e', hc'⟩ := h'.at i h2
  rw [e] at e'
  injection e' with e'
  subst e'
  rw [hc] at hc'
  injection hc' with hc'
  injection hc'
theorem trim_R {w : World} {base g n c : Nat} {ok : Nat → Prop} {xs ys : List Int} (h : (Kd.int .u64).R 36 w base ok (.slice (some ⟨g, 0, none⟩) n c) xs) (h' : Rd w (some ⟨g, 0, none⟩) c ys) (hl : ys.length ≤ xs.length) : (Kd.int .u64).R 36 w base ok (.slice (some ⟨g, 0, none⟩) ys.length c) ys := by
  have h1 := Kd.R_take h hl
  have e := Kd.R_reads' h1
  have h2 : Kd.C (Kd.int .u64) w (some ⟨g, 0, none⟩) (xs.take ys.length).length (xs.take ys.length) := e.2.2
  have hlen : (xs.take ys.length).length = ys.length := by rw [List.length_take]; omega
  have h3 : xs.take ys.length = ys := by
    refine List.ext_getElem hlen (fun i h1 h2 => ?_)
    obtain ⟨ad, ea, hc⟩ := h'.at i h2
    obtain ⟨ad', ea', hc'⟩ := Kd.at_int e.2.2 (i : Int) (by omega) (by omega)
    rw [ea] at ea'
    injection ea' with ea'
    subst ea'
    rw [Int.toNat_natCast] at hc'
    rw [hc] at hc'
    injection hc' with hc'
    injection hc' with _ hc'
    rw [hc', rd_nat h1]
  rw [h3] at h1
  exact h1
theorem d_pos {d : List Int} (l : Lim d) (r : Rt d) (h : 0 < d.length) : 0 < V d := by
  have h1 := V_ge l r (by intro e; rw [e] at h; simp at h)
  have h2 := pow_pos (d.length - 1)
  omega
theorem ls_start {w w3 w9 : World} {gr gd gq m k mq cr cd cq : Nat} {r d : List Int} {ok : Nat → Prop}
    (h3 : (Kd.int .u64).R 36 w3 w.heap.size (fun x => x = gr) (.slice (some ⟨gr, 0, none⟩) m cr) r ∧ gr ≠ gd ∧ w.heap.size ≤ gd ∧ gd < w3.heap.size)
    (hd : (Kd.int .u64).R 36 w3 w.heap.size (fun x => x = gd) (.slice (some ⟨gd, 0, none⟩) k cd) d)
    (h9 : (Kd.int .u64).R 36 w9 w.heap.size ok (.slice (some ⟨gq, 0, none⟩) mq cq) (List.replicate (mq : Int).toNat 0) ∧ Below w.heap.size w w9 ∧ w3.grownBy w9 none ∧ ∃ b, (Value.slice (some ⟨gq, 0, none⟩) mq cq).ownBlock = some b ∧ w3.heap.size ≤ b) (hgq : w.heap.size ≤ gq) (hgr : w.heap.size ≤ gr) :
    LS w w9 gr gd gq m k mq cr cd cq r d (List.replicate mq 0) := by
  obtain ⟨i1, i2, i3, b, i4, i5⟩ := h9
  have hb : b = gq := by simpa [Value.ownBlock] using i4.symm
  subst hb
  have hlt : gr < w3.heap.size := own_lt (Kd.own_of_R h3.1) gr (by simp [Value.ownBlock])
  have hk : Kept w3 w9 (fun _ => False) := Kept.of_grown i3 (Kept.refl w3 _) (fun _ hx => by cases hx)
  rw [Int.toNat_natCast] at i1
  exact ⟨i2, Kd.R_kept h3.1 hk (fun _ _ h => h), Kd.R_kept hd hk (fun _ _ h => h), R_only i1, ⟨h3.2.1, by omega, by have := h3.2.2.2; omega⟩, hgr, h3.2.2.1, hgq⟩
theorem idx_ok {j k k2 j2 j1 j0 e1 m ql rl cr : Nat} (h : j2 = j + k2 + 2 ∧ j1 = j + k2 + 1 ∧ j0 = j + k2 ∧ e1 = k2 + 1) (hk : k = k2 + 2) (h2 : 2 ≤ k ∧ j < ql ∧ ql + k = m ∧ m ≤ 100 ∧ rl = m ∧ m ≤ cr) :
    (wrap64 ((j : Int) + (k : Int)) = (j2 : Int) ∧ wrap64 ((j2 : Int) - 1) = (j1 : Int) ∧ wrap64 ((j2 : Int) - 2) = (j0 : Int) ∧ wrap64 ((k : Int) - 1) = (e1 : Int) ∧ wrap64 ((k : Int) - 2) = (k2 : Int)) ∧
    ((0 : Int) ≤ (j2 : Int) ∧ (0 : Int) ≤ (j1 : Int) ∧ (0 : Int) ≤ (j0 : Int) ∧ (0 : Int) ≤ (e1 : Int) ∧ (0 : Int) ≤ (k2 : Int)) ∧
    (j2 : Int) < (m : Int) ∧ (j1 : Int) < (m : Int) ∧ (j0 : Int) < (m : Int) ∧ (e1 : Int) < (k : Int) ∧ (k2 : Int) < (k : Int) := by
  unfold wrap64
  omega
theorem idx_cut {j k k2 j2 j1 j0 e1 m ql rl cr j3 : Nat} (h : j2 = j + k2 + 2 ∧ j1 = j + k2 + 1 ∧ j0 = j + k2 ∧ e1 = k2 + 1) (hk : k = k2 + 2) (h2 : 2 ≤ k ∧ j < ql ∧ ql + k = m ∧ m ≤ 100 ∧ rl = m ∧ m ≤ cr) (h3 : j3 = j2 + 1) :
    wrap64 ((j : Int) + (k : Int)) = (j2 : Int) ∧ wrap64 ((j2 : Int) + 1) = (j3 : Int) ∧ (0 : Int) ≤ (j : Int) ∧ (j : Int) ≤ (j3 : Int) ∧ (j3 : Int) ≤ (cr : Int) ∧ ¬ cr = j ∧ (m : Int) ≤ (cr : Int) := by
  unfold wrap64
  omega
theorem div_ok {D : Int} (h : 0 < D) (P : Int) : P / D * D ≤ P ∧ P < P / D * D + D := by
  refine ⟨Int.ediv_mul_le _ (Int.ne_of_gt h), ?_⟩
  have := Int.lt_ediv_add_one_mul_self P h
  rw [Int.add_mul, Int.one_mul] at this
  exact this
theorem less_more {g qq D P : Int} (hg : qq ≤ g ∧ 0 ≤ g ∧ g < B) (hq : qq * D ≤ P ∧ P < qq * D + D) (h : P < D * g) : qq < g := by
  rcases Int.lt_or_le qq g with h1 | h1
  · exact h1
  · have e : g = qq := by omega
    rw [e, Int.mul_comm] at h
    omega
theorem same_limb {g qq D P : Int} (hg : qq ≤ g ∧ 0 ≤ g ∧ g < B) (hq : qq * D ≤ P ∧ P < qq * D + D) (hD : 0 < D) (h : D * g ≤ P) : g = qq := by
  rcases Int.lt_or_le qq g with h1 | h1
  · exfalso
    have h2 : (qq + 1) * D ≤ g * D := Int.mul_le_mul_of_nonneg_right h1 (Int.le_of_lt hD)
    rw [Int.add_mul, Int.one_mul] at h2
    rw [Int.mul_comm] at h
    omega
  · omega
theorem gmeas {g qq : Int} (h : qq < g) : (intOf (.int .u64 (g - 1)) - qq).toNat < (intOf (.int .u64 g) - qq).toNat := by
  simp only [intOf]
  omega
theorem jmeas {j : Nat} : (intOf (.int .i64 ((j : Int) - 1)) + 1).toNat < (intOf (.int .i64 (j : Int)) + 1).toNat := by
  simp only [intOf]
  omega
theorem li_done {R0 D : Int} {k m : Nat} {r q : List Int} (h : LI R0 D k m 0 r q) : V r < D ∧ R0 = V q * D + V r := by
  have h1 := h.lo
  have h2 := h.v
  rw [List.drop_zero] at h1 h2
  rw [Int.pow_zero, Int.mul_one] at h2
  exact ⟨h1, h2⟩
theorem rdOf_set {o : List Int} {i : Nat} (h : i < o.length) (v : Int) : rdOf 0 (o.set i v) (i : Int) = v := by simp [rdOf, h]
theorem not_next {s i l : Nat} (h : ¬ (0 < s ∧ i + 1 < l)) (h0 : 0 < s) : ¬ (i : Int) + 1 < (l : Int) := fun h1 => h ⟨h0, by omega⟩
theorem rest_val {R0 Q D R A C : Int} {s : Nat} (h : R0 = Q * D + R) (h1 : R0 = A * 2 ^ s) (h2 : D = C * 2 ^ s) : R = (A - Q * C) * 2 ^ s := by
  rw [h2, h1] at h
  rw [Int.sub_mul, h]
  grind
theorem rest_lt {R0 Q D R A C : Int} {s : Nat} (h0 : R < D) (h : R0 = Q * D + R) (h1 : R0 = A * 2 ^ s) (h2 : D = C * 2 ^ s) : A - Q * C < C := by
  rw [rest_val h h1 h2, h2] at h0
  exact Int.lt_of_mul_lt_mul_right h0 (Int.le_of_lt (two_pos s))
theorem rd_R2 {w : World} {base n c : Nat} {ok : Nat → Prop} {A : Option Addr} {xs : List Int} (h : (Kd.int .u64).R 36 w base ok (.slice A n c) xs) (l : Lim xs) : n = xs.length ∧ Rd w A c xs := by
  have e := Kd.R_reads' h
  exact ⟨e.1, e.2.2, e.1 ▸ e.2.1, l⟩
theorem min_eq {s : Nat} (h : s < 64) : min s 64 = s := by omega
theorem sub64_w {s : Nat} (h : s < 64) : IntKind.u64.wrap (64 - (s : Int)) = ((64 - s : Nat) : Int) := by rw [IntKind.wrap_u64]; omega
theorem back_facts {rs : List Int} {s i : Nat} (lr : Lim rs) (h0 : 0 < s) (hs : s < 64) (hi : i + 1 < rs.length) : ∃ z, IntKind.u64.wrap (rs[i + 1] * 2 ^ min (64 - s) 64) = z ∧ bits .or .u64 (rs[i] / 2 ^ s) z = back rs s i := by
  refine ⟨shl .u64 rs[i + 1] ((64 - s : Nat) : Int), ?_, back_or lr h0 hs hi⟩
  unfold shl
  rw [Int.toNat_natCast]
  rfl
/-- The guessed limb. -/
theorem guess_at {R0 : Int} {k k2 m j : Nat} {r q d : List Int} (h : LI R0 (V d) k m (j + 1) r q) (ld : Lim d) (hd : d.length = k) (rd : Rt d) (hk : k = k2 + 2) :
    ∃ g : Int, (∀ W : World, Calls Try.prog 41 #[.int .u64 (at0 r (j + k2 + 2)), .int .u64 (at0 r (j + k2 + 1)), .int .u64 (at0 r (j + k2)), .int .u64 (at0 d (k2 + 1)), .int .u64 (at0 d k2)] W fun e w' => e = .returned (.int .u64 g) ∧ ∃ m, w' = W.drewN m) ∧ V (Lo.part r k j) / V d ≤ g ∧ 0 ≤ g ∧ g < B := by
  have hp := h.part_val
  have hpl := h.part_len
  have hjk : j + k + 1 ≤ r.length := by have := h.rn; have := h.hi; have := h.qn; omega
  obtain ⟨qq, hq⟩ : ∃ qq, qq = V (Lo.part r k j) / V d := ⟨_, rfl⟩
  have hD := h.D0.1
  have h1 : qq * V d ≤ V (Lo.part r k j) := by rw [hq]; exact Int.ediv_mul_le _ (Int.ne_of_gt hD)
  have h2 : V (Lo.part r k j) < qq * V d + V d := by
    have := Int.lt_ediv_add_one_mul_self (V (Lo.part r k j)) hD
    rw [← hq, Int.add_mul, Int.one_mul] at this
    exact this
  have hlimb := h.limb h1 h2
  have hpre := guess_pre (part_lim (k := k) (j := j) h.rl) ld (by omega) (by omega) hlimb.1 h1 (k := k2)
  have pe : ∀ i (hi : i < k + 1), (Lo.part r k j)[i]'(by omega) = at0 r (j + i) := by
    intro i hi
    rw [Lo.at0_get (by omega)]
    simp [Lo.part]
  rw [pe (k2 + 2) (by omega), pe (k2 + 1) (by omega), pe k2 (by omega), ← Lo.at0_get (rs := d) (i := k2 + 1) (by omega), ← Lo.at0_get (rs := d) (i := k2) (by omega)] at hpre
  have htop : 0 < at0 d (k2 + 1) := by
    have h5 : at0 d (k2 + 1) ≠ 0 := by
      rw [Lo.at0_get (by omega)]
      refine rd _ ?_
      rw [List.getLast?_eq_getElem?, List.getElem?_eq_getElem (by omega)]
      congr 2
      omega
    have := at0_lim ld (k2 + 1)
    omega
  obtain ⟨kk, g, i1, i2, i3, i4⟩ := Nr.guess_ok (at0_lim h.rl (j + (k2 + 2))) (at0_lim h.rl (j + (k2 + 1))) (at0_lim h.rl (j + k2)) ⟨htop, (at0_lim ld (k2 + 1)).2⟩ (at0_lim ld k2) hlimb hpre
  exact ⟨g, fun W => (nat_guess.calls kk _ _ _ _ _ g W i1).mono (fun e w' h => ⟨h.1, h.2.out⟩), by rw [← hq]; exact i2, i3, i4⟩
set_option maxRecDepth 100000 in
set_option maxHeartbeats 4000000 in
theorem long_calls (w : World) (ha : Nm w A0 c0 a) (hb : Nm w A1 c1 b) (h2 : 2 ≤ b.length) (hl : b.length ≤ a.length) :
    Calls Try.prog 26 #[.slice A0 a.length c0, .slice A1 b.length c1] w fun e w' => ∃ Aq cq q Ar cr r, e = .returned (.tuple #[.slice Aq q.length cq, .slice Ar r.length cr]) ∧ Below w.heap.size w w' ∧ Rd w' Aq cq q ∧ Rd w' Ar cr r ∧ Rt q ∧ Rt r ∧ V a = V q * V b + V r ∧ V r < V b := by
  have HA := Aside0.mk ha
  have HB := Aside0.mk hb
  have HL := Aside0.mk (And.intro h2 hl)
  have htop : b.length - 1 < b.length := by omega
  have HTP := Aside0.mk htop
  have hx := hb.l _ (List.getElem_mem HTP.out)
  have hne : b[b.length - 1]'HTP.out ≠ 0 := hb.t _ (by rw [List.getLast?_eq_getElem?, List.getElem?_eq_getElem HTP.out])
  obtain ⟨s, L, z1, z2, z3, z4⟩ := lz_ok (x := b[b.length - 1]'HTP.out) (by omega)
  obtain ⟨A, e, hc⟩ := hb.toRd.at (b.length - 1) HTP.out
  subst e
  have HZ := Aside0.mk (And.intro z2 (And.intro z3 z4))
  obtain ⟨x, hxx⟩ : ∃ x, x = b[b.length - 1]'HTP.out := ⟨_, rfl⟩
  rw [← hxx] at hc z1
  have HLZ := Aside0.mk z1
  obtain ⟨n, hn⟩ : ∃ n, n = a.length := ⟨_, rfl⟩
  obtain ⟨k, hk⟩ : ∃ k, k = b.length := ⟨_, rfl⟩
  have HN := Aside0.mk (And.intro hn hk)
  rw [← hk] at hc
  rw [← hn, ← hk]
  have p1 : (0 : Int) ≤ ((k - 1 : Nat) : Int) := by omega
  have p2 : ((k - 1 : Nat) : Int) < (k : Int) := by omega
  have w1 : wrap64 ((k : Int) - 1) = ((k - 1 : Nat) : Int) := by have := hb.n; unfold wrap64; omega
  have w2 : IntKind.u64.wrap (s : Int) = (s : Int) := by rw [IntKind.wrap_u64]; omega
  clear ha hb h2 hl htop hx hne z1 z2 z3 z4 hxx hn hk
  go_enter Try.func26, Try.ntmps26
  go_wp2_with fail
  refine (bits_LeadingZeros64.calls x (s : Int) w HLZ.out).mono ?_
  rintro e wz ⟨rfl, hd0⟩
  have hb0 := hd0.below
  have HU := Aside0.mk (up_rd wz (HA.out.toRd.below hb0) HZ.out.1 (by have := HA.out.n; omega))
  rw [← HN.out.1] at HU
  have HB0 := Aside0.mk hb0
  clear hb0 hd0 hc p1 p2 w1
  go_wp2_with fail
  refine HU.out.mono ?_
  rintro e wr ⟨vr, r, rfl, hr, hbr, lr, nr, er⟩
  obtain ⟨gr, cr, rfl, hg1, hg2, _⟩ := Kd.R_form hr (by omega)
  have HBR := Aside0.mk (below_step HB0.out hbr)
  have HUB := Aside0.mk (up_rd wr (HB.out.toRd.below HBR.out) HZ.out.1 (by have := HB.out.n; omega))
  rw [← HN.out.2] at HUB
  have HR := Aside0.mk (And.intro (Kd.R_lower (R_only hr) HB0.out.size) (And.intro lr (And.intro nr (And.intro er (And.intro hg2 (Nat.le_trans HB0.out.size hg1))))))
  clear HU hr hbr lr nr er hg1 hg2
  rename_i hz1
  go_wp2_with fail
  refine HUB.out.mono ?_
  rintro e w3 ⟨vd, d0, rfl, hd, hbd, ld, nd, ed⟩
  obtain ⟨gd, cd, rfl, hg1, hg2, _⟩ := Kd.R_form hd (by omega)
  have HB3 := Aside0.mk (below_step HBR.out hbd)
  have HR3 := Aside0.mk (And.intro (Kd.R_below HR.out.1 hbd) (show gr ≠ gd ∧ w.heap.size ≤ gd ∧ gd < w3.heap.size by have := HR.out.2.2.2.2.1; have := HBR.out.size; omega))
  have HD := Aside0.mk (And.intro (Kd.R_lower (R_only hd) HBR.out.size) (And.intro ld (And.intro nd ed)))
  clear HUB hd hbd ld nd ed hg1 hg2 hz1
  go_wp2_with fail
  refine (trim_rd w3 (rd_R HD.out.1 HD.out.2.1) (by have := HD.out.2.2.1; have := HN.out; have := HB.out.n; omega)).mono ?_
  rintro e wx ⟨d, rfl, hwx, i1, i2, i3, i4⟩
  have hwx2 := hwx.symm
  subst hwx2
  have hlt := norm_lt HB.out.l (by have := HL.out; omega) HZ.out.2.2 HZ.out.2.1
  have hdk : d.length = k := (norm_len HB.out.l HB.out.t (by have := HL.out; omega) i1.l i3 (by rw [i2, HD.out.2.2.2]) hlt).trans HN.out.2.symm
  have HDD := Aside0.mk (show (Kd.int .u64).R 36 w3 w.heap.size (fun x => x = gd) (.slice (some ⟨gd, 0, none⟩) k cd) d ∧ Lim d ∧ Rt d ∧ d.length = k ∧ V d = V b * 2 ^ s ∧ V d < B ^ k from ⟨hdk ▸ trim_R HD.out.1 i1 i4, i1.l, i3, hdk, by rw [i2, HD.out.2.2.2], by rw [i2, HD.out.2.2.2, HN.out.2]; exact hlt⟩)
  rw [hdk]
  obtain ⟨m, hm⟩ : ∃ m, m = r.length := ⟨_, rfl⟩
  have HM := Aside0.mk (show m = r.length ∧ m = n + 1 from ⟨hm, by rw [hm, HR.out.2.2.1, HN.out.1]⟩)
  rw [← hm] at HR3 ⊢
  clear hwx i1 i2 i3 i4 hlt hdk hm HD
  obtain ⟨mq, hmq⟩ : ∃ mq, mq = m - k := ⟨_, rfl⟩
  have HMQ := Aside0.mk (show mq + k = m ∧ 0 < mq ∧ m ≤ 100 by have := HM.out; have := HN.out; have := HL.out; have := HA.out.n; omega)
  have w3' : wrap64 ((m : Int) - (k : Int)) = (mq : Int) := by have := HMQ.out; unfold wrap64; omega
  have hN0 : (0 : Int) ≤ (mq : Int) := by omega
  have hNk : (mq : Int).toNat * 8 ≤ 281474976710656 := by have := HMQ.out; omega
  have w4 : wrap64 ((mq : Int) - 1) = (mq : Int) - 1 := by have := HMQ.out; unfold wrap64; omega
  clear hmq
  go_upto_region 5 with ((with_reducible refine gate_dst (N := 39) rfl ?_); refine Kd.R_make (Kd.int .u64) (w0 := w) w.heap.size 36 rfl (N := 39) rfl 23 _ _ rfl (mq : Int) (by first | rfl | exact congrArg _ w3') (by first | rfl | exact congrArg _ w3') Try.underlying23 (.int .u64 0) 8 info36 rfl (by decide) (by omega) 0 (ok := fun _ => True) (okp := fun _ => True) rfl (fun _ hk => hk) trivial hN0 hNk HB3.out HB3.out.size ?_; intro v9 w9 ho9 hb9 hg9 ha9; have HO9 := Aside0.mk (And.intro ho9 (And.intro hb9 (And.intro hg9 ha9))); clear ho9 hb9 hg9 ha9)
  obtain ⟨gq, cq, e9, hgq, _⟩ := Kd.R_form HO9.out.1 (by rw [List.length_replicate, Int.toNat_natCast]; exact HMQ.out.2.1)
  rw [List.length_replicate, Int.toNat_natCast] at e9
  subst e9
  have HLS := Aside0.mk (ls_start HR3.out HDD.out.1 HO9.out hgq HR.out.2.2.2.2.2)
  have HLI := Aside0.mk (show LI (V r) (V d) k m mq r (List.replicate mq 0) by
    have h := LI.start (R0 := V r) (D := V d) (k := k) (m := m) (r := r) (q := List.replicate mq 0) HM.out.1.symm HR.out.2.1 (by rw [List.length_replicate]; exact HMQ.out.1) (Lim.zeros _) ⟨d_pos HDD.out.2.1 HDD.out.2.2.1 (by have := HDD.out.2.2.2.1; have := HL.out; have := HN.out; omega), HDD.out.2.2.2.2.2⟩ rfl (by
      rw [List.length_replicate, HR.out.2.2.2.1, HDD.out.2.2.2.2.1]
      exact start_lt HA.out.l HB.out.l HB.out.t (by have := HL.out; omega) (by have := HMQ.out; have := HM.out; have := HN.out; omega))
    rw [List.length_replicate] at h
    exact h)
  have HV := Aside0.mk (show V r = V a * 2 ^ s ∧ V d = V b * 2 ^ s from ⟨HR.out.2.2.2.1, HDD.out.2.2.2.2.1⟩)
  have HDL := Aside0.mk (show Lim d ∧ Rt d ∧ d.length = k ∧ 2 ≤ k ∧ mq + k = m ∧ m ≤ 100 from ⟨HDD.out.2.1, HDD.out.2.2.1, HDD.out.2.2.2.1, by have := HL.out; have := HN.out; omega, HMQ.out.1, HMQ.out.2.2⟩)
  obtain ⟨R0, hR0⟩ : ∃ R0, R0 = V r := ⟨_, rfl⟩
  rw [← hR0] at HLI HV
  obtain ⟨q0, hq0⟩ : ∃ q0, q0 = List.replicate mq (0 : Int) := ⟨_, rfl⟩
  rw [← hq0] at HLI HLS
  clear hR0 hq0 HR HR3 HDD HO9 hgq w3' hN0 hNk HM HBR HB0 HB3 HMQ
  go_wp2_with fail
  go_loopw [11, 12, 13, 14] (fun v11 v12 v13 v14 wi => ∃ (i : Nat) (r q : List Int), v11 = .int .i64 ((i : Int) - 1) ∧ Aside0 (LI R0 (V d) k m i r q) ∧ Aside0 (LS w wi gr gd gq m k mq cr cd cq r d q)) (fun v11 _ _ _ _ => (intOf v11 + 1).toNat)
  case atStart => exact ⟨mq, r, q0, congrArg _ w4, HLI, HLS⟩
  case round =>
    clear HLI HLS w4
    obtain ⟨i, r, q, rfl, HLI, HLS⟩ := hrel
    rcases Nat.eq_zero_or_pos i with hi | hi
    · subst hi
      obtain ⟨wE, hE⟩ : ∃ W, W = wr := ⟨_, rfl⟩
      subst hE
      have hfin := li_done HLI.out
      have HT := Aside0.mk (trim_rd wE (HLS.out.rdr HLI.out.rl) (by have := HLI.out.rn; have := HDL.out; omega))
      rw [← HLS.out.lens.1.1] at HT
      have HF := Aside0.mk hfin
      have HQQ := Aside0.mk (And.intro (HLS.out.rdq HLI.out.ql) HLS.out.lens.2.2.1)
      clear hfin
      go_wp2_with fail
      refine HT.out.mono ?_
      rintro e wx ⟨rs, rfl, hwx, i1, i2, i3, i4⟩
      have hwx2 := hwx.symm
      subst hwx2
      have HRS := Aside0.mk (show Rd wE (some ⟨gr, 0, none⟩) cr rs ∧ V rs = V r ∧ Rt rs ∧ rs.length ≤ 100 from ⟨i1, i2, i3, by have := HLI.out.rn; have := HDL.out; omega⟩)
      obtain ⟨l, hl⟩ : ∃ l, l = rs.length := ⟨_, rfl⟩
      have HLL := Aside0.mk hl
      rw [← hl]
      have hN0 : (0 : Int) ≤ (l : Int) := Int.natCast_nonneg l
      have hNk : (l : Int).toNat * 8 ≤ 281474976710656 := by have := HRS.out.2.2.2; omega
      clear hwx i1 i2 i3 i4 HT hl
      go_upto_region 17 with ((with_reducible refine gate_dst (N := 110) rfl ?_); refine Kd.R_make (Kd.int .u64) (w0 := wE) wE.heap.size 36 rfl (N := 110) rfl 23 _ _ rfl (l : Int) (by first | rfl) (by first | rfl) Try.underlying23 (.int .u64 0) 8 info36 rfl (by decide) (by omega) 0 (ok := fun _ => True) (okp := fun _ => True) rfl (fun _ hk => hk) trivial hN0 hNk (Below.refl _ _) (Nat.le_refl _) ?_; intro v9 w9 ho9 hb9 _ _; have HO9 := Aside0.mk (And.intro ho9 hb9); clear ho9 hb9)
      obtain ⟨Ao, co, hvo⟩ := Kd.R_slice HO9.out.1
      rw [List.length_replicate, Int.toNat_natCast] at hvo
      subst hvo
      have HOI := Aside0.mk (show OI rs s 0 (List.replicate (l : Int).toNat 0) by rw [Int.toNat_natCast, HLL.out]; exact OI.start rs s)
      clear hN0 hNk
      go_wp2_with fail
      go_loopw [17, 113] (fun v17 v113 wi => ∃ (i : Nat) (o : List Int), v113 = .int .i64 (i : Int) ∧ i ≤ l ∧ Aside0 (OI rs s i o) ∧ Aside0 ((Kd.int .u64).R 36 wi wE.heap.size (fun _ => True) (.slice Ao l co) o) ∧ Aside0 (Below wE.heap.size wE wi)) (fun _ v113 _ => l - (intOf v113).toNat)
      case atStart => exact ⟨0, _, rfl, Nat.zero_le _, HOI, ⟨HO9.out.1⟩, ⟨HO9.out.2⟩⟩
      case round =>
        clear HOI HO9
        obtain ⟨i, o, rfl, hi, HOI, HO, HBW⟩ := hrel
        by_cases hlt : i < l
        · have hir : i < rs.length := by have := HLL.out; omega
          have HIR := Aside0.mk hir
          obtain ⟨go, cap, ego, _, _⟩ := Kd.R_form HO.out (by have := HOI.out.n; omega)
          injection ego with ego1 ego2 ego3
          subst ego1
          obtain ⟨g1, g2⟩ := Kd.R_celln 0 HO.out (i : Int) (by omega) (by omega)
          rw [Int.toNat_natCast] at g1 g2
          have HRI := Aside0.mk (HRS.out.1.below HBW.out)
          obtain ⟨_, ead, hcr⟩ := HRI.out.at i HIR.out
          injection ead with ead
          subst ead
          rw [add_plain] at hcr
          obtain ⟨xi, hxi⟩ : ∃ x, x = rs[i]'HIR.out := ⟨_, rfl⟩
          rw [← hxi] at hcr
          have HXI := Aside0.mk hxi
          obtain ⟨hv, hhv⟩ : ∃ h, h = xi / 2 ^ s := ⟨_, rfl⟩
          have HHV := Aside0.mk hhv
          have b1 : (0 : Int) ≤ (i : Int) := Int.natCast_nonneg i
          have b2 : (i : Int) < (l : Int) := Int.ofNat_lt.2 hlt
          have b3 : decide ((i : Int) < (l : Int)) = true := decide_eq_true b2
          have b4 : decide (i < l) = true := decide_eq_true hlt
          clear hhv
          have HP := Aside0.mk (Kd.R_putg HO.out (i : Int) hv)
          rw [Int.toNat_natCast] at HP
          have HBP := Aside0.mk (show Below wE.heap.size wE (wr.setCell ⟨go, i, none⟩ (.int .u64 hv)) from HBW.out.grown HP.out.2 HBW.out.size (fun k hk => by cases hk; exact Kd.R_base HO.out go rfl))
          have HGO := Aside0.mk (Kd.R_base HO.out go rfl)
          have HST := Aside0.mk (HOI.out.step HIR.out HRS.out.1.l HZ.out.1)
          have HLT := Aside0.mk hlt
          have hwi := lt_wrap (n := i) (by have := HRS.out.2.2.2; omega)
          have HWI := Aside0.mk hwi
          clear hwi
          by_cases hs : 0 < s ∧ i + 1 < l
          · have d1 : decide (0 < s) = true := decide_eq_true hs.1
            have d2 : decide ((0 : Int) < (s : Int)) = true := decide_eq_true (by have := hs.1; omega)
            have d3 : decide ((i : Int) + 1 < (l : Int)) = true := decide_eq_true (by have := hs.2; omega)
            have d4 : decide (i + 1 < l) = true := decide_eq_true hs.2
            have HIR1 := Aside0.mk (show i + 1 < rs.length by have := HLL.out; have := hs.2; omega)
            obtain ⟨z, y1, y2⟩ := back_facts HRS.out.1.l hs.1 HZ.out.1 HIR1.out
            obtain ⟨yi, hyi⟩ : ∃ x, x = rs[i + 1]'HIR1.out := ⟨_, rfl⟩
            rw [← hyi] at y1
            rw [← hxi, ← HHV.out] at y2
            obtain ⟨v, hv2⟩ : ∃ v, v = back rs s i := ⟨_, rfl⟩
            rw [← hv2] at y2
            obtain ⟨sh, hsh⟩ : ∃ sh, sh = 64 - s := ⟨_, rfl⟩
            rw [← hsh] at y1
            obtain ⟨_, ead, hcr2⟩ := (HRS.out.1.below HBP.out).at (i + 1) HIR1.out
            injection ead with ead
            subst ead
            rw [add_plain, ← hyi] at hcr2
            obtain ⟨i1, hi1⟩ : ∃ i1, i1 = i + 1 := ⟨_, rfl⟩
            rw [← hi1] at hcr2
            have b5 : (0 : Int) ≤ (i1 : Int) := Int.natCast_nonneg i1
            have b6 : (i1 : Int) < (l : Int) := by have := hs.2; omega
            have d5 : decide ((i1 : Int) < (l : Int)) = true := decide_eq_true b6
            have d6 : decide (i1 < l) = true := decide_eq_true (by have := hs.2; omega)
            obtain ⟨k1, k2⟩ := Kd.R_celln 0 HP.out.1 (i : Int) (by omega) (by omega)
            rw [show rdOf 0 (o.set i hv) (i : Int) = hv from rdOf_set (by rw [HOI.out.n]; exact HIR.out) hv, Int.toNat_natCast] at k1
            rw [Int.toNat_natCast] at k2
            have HP2 := Aside0.mk (Kd.R_putg HP.out.1 (i : Int) v)
            rw [Int.toNat_natCast, List.set_set] at HP2
            have HV2 := Aside0.mk hv2
            have HI1 := Aside0.mk hi1
            have y3 : IntKind.u64.wrap (64 - (s : Int)) = (sh : Int) := by rw [hsh]; exact sub64_w HZ.out.1
            have y4 : wrap64 ((i : Int) + 1) = (i1 : Int) := by rw [hi1]; exact HWI.out
            have s1 : xi / 2 ^ min s 64 = hv := by rw [HHV.out, min_eq HZ.out.1]
            clear hxi hlt hir hi hs hyi hv2 hsh hi1 ego2 ego3
            go_upto_region 22 with fail
            generalize wr.setCell ⟨go, i, none⟩ (.int .u64 hv) = W at *
            refine start_ (n := 15) (S := fun w' => w' = W.drew) (ds := [14]) #[false, false, false, false, false, false, false, false, false, false, false, false, false, false, false] (by kernel_rfl) rfl rfl rfl (fun hHeld => ?_)
            refine pure_ (i := 0) (N := some 134) (v := ?_) (a' := ?_) #[true, false, false, false, false, false, false, false, false, false, false, false, false, false, false] rfl rfl (by kernel_rfl) (fun _ _ _ h => h) (Or.inl ⟨by rfl, ?_⟩) ?_ ?_
            rotate_left
            · intro w'
              go_simp
              try with_reducible rfl
            rotate_left
            · simp only [Act.put, List.setIfInBounds_toArray, List.set_cons_zero, List.set_cons_succ, i64_w, i32_w]
              rfl
            refine pure_ (i := 1) (N := some 135) (v := ?_) (a' := ?_) #[true, true, false, false, false, false, false, false, false, false, false, false, false, false, false] rfl rfl (by kernel_rfl) (fun _ _ _ h => h) (Or.inl ⟨by rfl, ?_⟩) ?_ ?_
            rotate_left
            · intro w'
              go_simp
              try with_reducible rfl
            rotate_left
            · simp only [Act.put, List.setIfInBounds_toArray, List.set_cons_zero, List.set_cons_succ, i64_w, i32_w]
              rfl
            refine pure_ (i := 2) (N := some 136) (v := ?_) (a' := ?_) #[true, true, true, false, false, false, false, false, false, false, false, false, false, false, false] rfl rfl (by kernel_rfl) (fun _ _ _ h => h) (Or.inl ⟨by rfl, ?_⟩) ?_ ?_
            rotate_left
            · intro w'
              go_simp
              try with_reducible rfl
            rotate_left
            · simp only [Act.put, List.setIfInBounds_toArray, List.set_cons_zero, List.set_cons_succ, i64_w, i32_w]
              rfl
            refine take_ (i := 3) (N := some 137) (v := ?_) (a' := ?_) #[true, true, true, true, false, false, false, false, false, false, false, false, false, false, false] rfl rfl (by kernel_rfl) (fun _ _ _ h => h) (Or.inl ⟨by rfl, ?_⟩) hHeld ?_ ?_
            rotate_left
            · intro w' hSw
              subst hSw
              go_simp
              try with_reducible rfl
            rotate_left
            · simp only [Act.put, List.setIfInBounds_toArray, List.set_cons_zero, List.set_cons_succ, i64_w, i32_w]
              rfl
            refine pure_ (i := 4) (N := some 138) (v := ?_) (a' := ?_) #[true, true, true, true, true, false, false, false, false, false, false, false, false, false, false] rfl rfl (by kernel_rfl) (fun _ _ _ h => h) (Or.inl ⟨by rfl, ?_⟩) ?_ ?_
            rotate_left
            · intro w'
              go_simp
              try with_reducible rfl
            rotate_left
            · simp only [Act.put, List.setIfInBounds_toArray, List.set_cons_zero, List.set_cons_succ, i64_w, i32_w]
              rfl
            refine pure_ (i := 5) (N := some 139) (v := ?_) (a' := ?_) #[true, true, true, true, true, true, false, false, false, false, false, false, false, false, false] rfl rfl (by kernel_rfl) (fun _ _ _ h => h) (Or.inl ⟨by rfl, ?_⟩) ?_ ?_
            rotate_left
            · intro w'
              go_simp
              try with_reducible rfl
            rotate_left
            · simp only [Act.put, List.setIfInBounds_toArray, List.set_cons_zero, List.set_cons_succ, i64_w, i32_w]
              rfl
            refine pure_ (i := 6) (N := some 140) (v := ?_) (a' := ?_) #[true, true, true, true, true, true, true, false, false, false, false, false, false, false, false] rfl rfl (by kernel_rfl) (fun _ _ _ h => h) (Or.inl ⟨by rfl, ?_⟩) ?_ ?_
            rotate_left
            · intro w'
              go_simp
              try with_reducible rfl
            rotate_left
            · simp only [Act.put, List.setIfInBounds_toArray, List.set_cons_zero, List.set_cons_succ, i64_w, i32_w]
              rfl
            refine pure_ (i := 7) (N := some 141) (v := ?_) (a' := ?_) #[true, true, true, true, true, true, true, true, false, false, false, false, false, false, false] rfl rfl (by kernel_rfl) (fun _ _ _ h => h) (Or.inl ⟨by rfl, ?_⟩) ?_ ?_
            rotate_left
            · intro w'
              go_simp
              try with_reducible rfl
            rotate_left
            · simp only [Act.put, List.setIfInBounds_toArray, List.set_cons_zero, List.set_cons_succ, i64_w, i32_w]
              rfl
            refine take_ (i := 8) (N := some 142) (v := ?_) (a' := ?_) #[true, true, true, true, true, true, true, true, true, false, false, false, false, false, false] rfl rfl (by kernel_rfl) (fun _ _ _ h => h) (Or.inl ⟨by rfl, ?_⟩) hHeld ?_ ?_
            rotate_left
            · intro w' hSw
              subst hSw
              go_simp
              try with_reducible rfl
            rotate_left
            · simp only [Act.put, List.setIfInBounds_toArray, List.set_cons_zero, List.set_cons_succ, i64_w, i32_w]
              rfl
            refine pure_ (i := 9) (N := some 143) (v := ?_) (a' := ?_) #[true, true, true, true, true, true, true, true, true, true, false, false, false, false, false] rfl rfl (by kernel_rfl) (fun _ _ _ h => h) (Or.inl ⟨by rfl, ?_⟩) ?_ ?_
            rotate_left
            · intro w'
              go_simp
              try with_reducible rfl
            rotate_left
            · simp only [Act.put, List.setIfInBounds_toArray, List.set_cons_zero, List.set_cons_succ, i64_w, i32_w]
              rfl
            refine pure_ (i := 10) (N := some 144) (v := ?_) (a' := ?_) #[true, true, true, true, true, true, true, true, true, true, true, false, false, false, false] rfl rfl (by kernel_rfl) (fun _ _ _ h => h) (Or.inl ⟨by rfl, ?_⟩) ?_ ?_
            rotate_left
            · intro w'
              go_simp
              try with_reducible rfl
            rotate_left
            · simp only [Act.put, List.setIfInBounds_toArray, List.set_cons_zero, List.set_cons_succ, i64_w, i32_w]
              rfl
            refine pure_ (i := 11) (N := some 145) (v := ?_) (a' := ?_) #[true, true, true, true, true, true, true, true, true, true, true, true, false, false, false] rfl rfl (by kernel_rfl) (fun _ _ _ h => h) (Or.inl ⟨by rfl, ?_⟩) ?_ ?_
            rotate_left
            · intro w'
              go_simp
              try with_reducible rfl
            rotate_left
            · simp only [Act.put, List.setIfInBounds_toArray, List.set_cons_zero, List.set_cons_succ, i64_w, i32_w]
              rfl
            refine pure_ (i := 12) (N := some 146) (v := ?_) (a' := ?_) #[true, true, true, true, true, true, true, true, true, true, true, true, true, false, false] rfl rfl (by kernel_rfl) (fun _ _ _ h => h) (Or.inl ⟨by rfl, ?_⟩) ?_ ?_
            rotate_left
            · intro w'
              go_simp
              try with_reducible rfl
            rotate_left
            · simp only [Act.put, List.setIfInBounds_toArray, List.set_cons_zero, List.set_cons_succ, i64_w, i32_w]
              rfl
            refine pure_ (i := 13) (N := some 147) (v := ?_) (a' := ?_) #[true, true, true, true, true, true, true, true, true, true, true, true, true, true, false] rfl rfl (by kernel_rfl) (fun _ _ _ h => h) (Or.inl ⟨by rfl, ?_⟩) ?_ ?_
            rotate_left
            · intro w'
              go_simp
              try with_reducible rfl
            rotate_left
            · simp only [Act.put, List.setIfInBounds_toArray, List.set_cons_zero, List.set_cons_succ, i64_w, i32_w]
              rfl
            refine last_ (i := 14) (N := none) #[true, true, true, true, true, true, true, true, true, true, true, true, true, true, true] rfl rfl (by kernel_rfl) (by decide) (fun K hK => ?_)
            refine skip_ (w1 := (W.drew).setCell ⟨go, i, none⟩ (.int .u64 v)) (by rfl) rfl (by first | (go_simp; done) | (go_simp; rfl)) ?_
            refine hK.out _ _ ?_
            clear hK K
            refine done_ (by kernel_rfl) ?_
            clear y1 y2 y3 y4 s1 k1 k2 hcr2 d1 d2 d3 d4 d5 d6 b5 b6 g1 g2 hcr b1 b2 b3 b4
            have HWI2 := HWI.out
            go_wp2_with fail
            go_roundw
            case rel => exact ⟨i + 1, _, by go_num, HLT.out, ⟨by rw [← HV2.out] at HST; exact HST.out⟩, ⟨by have h := HP2.out.1; exact h⟩, ⟨(below_drew HBP.out).setCell HGO.out _⟩⟩
            case measure => first | exact smeas HLT.out | (rw [HWI2]; exact smeas HLT.out)
          · have HBK := Aside0.mk (show hv = back rs s i by rw [HHV.out, HXI.out]; exact back_plain HIR.out (by have := HLL.out; omega))
            by_cases hs0 : 0 < s
            · have d1 : decide (0 < s) = true := decide_eq_true hs0
              have d2 : decide ((0 : Int) < (s : Int)) = true := decide_eq_true (Int.ofNat_lt.2 hs0)
              have d3 : decide ((i : Int) + 1 < (l : Int)) = false := decide_eq_false (not_next hs hs0)
              have d4 : decide (i + 1 < l) = false := decide_eq_false (fun h => hs ⟨hs0, h⟩)
              have s1 : xi / 2 ^ min s 64 = hv := by rw [HHV.out, min_eq HZ.out.1]
              have s2 : xi / 2 ^ s = hv := HHV.out.symm
              have hwi := HWI.out
              clear hxi hlt hir hi hs hs0 ego2 ego3
              go_wp2_with fail
              clear s1 s2
              go_roundw
              case rel => exact ⟨i + 1, _, by go_num, HLT.out, ⟨by rw [← HBK.out] at HST; exact HST.out⟩, ⟨HP.out.1⟩, HBP⟩
              case measure => first | exact smeas HLT.out | (rw [HWI.out]; exact smeas HLT.out)
            · have d1 : decide (0 < s) = false := decide_eq_false hs0
              have d2 : decide ((0 : Int) < (s : Int)) = false := decide_eq_false (fun h => hs0 (Int.ofNat_lt.1 h))
              have s1 : xi / 2 ^ min s 64 = hv := by rw [HHV.out, min_eq HZ.out.1]
              have s2 : xi / 2 ^ s = hv := HHV.out.symm
              have hwi := HWI.out
              clear hxi hlt hir hi hs hs0 ego2 ego3
              go_wp2_with fail
              clear s1 s2
              go_roundw
              case rel => exact ⟨i + 1, _, by go_num, HLT.out, ⟨by rw [← HBK.out] at HST; exact HST.out⟩, ⟨HP.out.1⟩, HBP⟩
              case measure => first | exact smeas HLT.out | (rw [HWI.out]; exact smeas HLT.out)
        · have b3 : decide ((i : Int) < (l : Int)) = false := decide_eq_false (fun h => hlt (Int.ofNat_lt.1 h))
          have b4 : decide (i < l) = false := decide_eq_false hlt
          have hil : i = rs.length := by have := HLL.out; omega
          have hdone := OI.done (ρ := V a - V q * V b) (by rw [← hil]; exact HOI.out) (by rw [HRS.out.2.1, rest_val HF.out.2 HV.out.1 HV.out.2]) HRS.out.1.l
          have hlt2 := rest_lt HF.out.1 HF.out.2 HV.out.1 HV.out.2
          have HLSf := Aside0.mk (HLS.out.below HBW.out)
          have HTQ := Aside0.mk (trim_rd wr (HLSf.out.rdq HLI.out.ql) (by have := HLI.out.qn; have := HDL.out; omega))
          rw [← HQQ.out.2] at HTQ
          have hro := rd_R2 HO.out HOI.out.l
          have HTO := Aside0.mk (trim_rd wr hro.2 (by have := HOI.out.n; have := HRS.out.2.2.2; omega))
          rw [← hro.1] at HTO
          have HEND := Aside0.mk (And.intro hdone hlt2)
          clear hil hdone hlt2 hro hlt hi
          go_wp2_with fail
          refine HTQ.out.mono ?_
          rintro e wx ⟨tq, rfl, hwx, i1, i2, i3, i4⟩
          have hwx2 := hwx.symm
          subst hwx2
          have HQ1 := Aside0.mk (And.intro i1 (And.intro i2 i3))
          clear hwx i1 i2 i3 i4 HTQ
          go_wp2_with fail
          refine HTO.out.mono ?_
          rintro e wx ⟨tr, rfl, hwx, i1, i2, i3, i4⟩
          have hwx2 := hwx.symm
          subst hwx2
          have HO1 := Aside0.mk (And.intro i1 (And.intro i2 i3))
          clear hwx i1 i2 i3 i4 HTO
          go_wp2_with fail
          go_ret2
          refine ⟨_, _, tq, _, _, tr, rfl, HLSf.out.b, HQ1.out.1, HO1.out.1, HQ1.out.2.2, HO1.out.2.2, ?_, ?_⟩
          · rw [HQ1.out.2.1, HO1.out.2.1, HEND.out.1]; omega
          · rw [HO1.out.2.1, HEND.out.1]; exact HEND.out.2
    · obtain ⟨j, rfl⟩ : ∃ j, i = j + 1 := ⟨i - 1, by omega⟩
      have ej : ((j + 1 : Nat) : Int) - 1 = (j : Int) := by omega
      rw [ej]
      have HK := Aside0.mk (show 2 ≤ k ∧ j < q.length ∧ q.length + k = m ∧ m ≤ 100 ∧ r.length = m ∧ m ≤ cr from ⟨HDL.out.2.2.2.1, by have := HLI.out.hi; omega, HLI.out.qn, HDL.out.2.2.2.2.2, HLI.out.rn, HLS.out.lens.1.2⟩)
      obtain ⟨k2, hk2⟩ : ∃ k2, k = k2 + 2 := ⟨k - 2, by have := HK.out; omega⟩
      have HK2 := Aside0.mk hk2
      obtain ⟨g0, HG, hg0⟩ := guess_at HLI.out HDL.out.1 HDL.out.2.2.1 HDL.out.2.1 hk2
      obtain ⟨x2, hx2⟩ : ∃ x, x = at0 r (j + k2 + 2) := ⟨_, rfl⟩
      obtain ⟨x1, hx1⟩ : ∃ x, x = at0 r (j + k2 + 1) := ⟨_, rfl⟩
      obtain ⟨x0, hx0⟩ : ∃ x, x = at0 r (j + k2) := ⟨_, rfl⟩
      obtain ⟨y1, hy1⟩ : ∃ x, x = at0 d (k2 + 1) := ⟨_, rfl⟩
      obtain ⟨y0, hy0⟩ : ∃ x, x = at0 d k2 := ⟨_, rfl⟩
      have f2 : wr.cell? ⟨gr, j + k2 + 2, none⟩ = some (.int .u64 x2) := by have := HK.out; rw [hx2, Lo.at0_get (by omega)]; exact HLS.out.rcell (by omega)
      have f1 : wr.cell? ⟨gr, j + k2 + 1, none⟩ = some (.int .u64 x1) := by have := HK.out; rw [hx1, Lo.at0_get (by omega)]; exact HLS.out.rcell (by omega)
      have f0 : wr.cell? ⟨gr, j + k2, none⟩ = some (.int .u64 x0) := by have := HK.out; rw [hx0, Lo.at0_get (by omega)]; exact HLS.out.rcell (by omega)
      have t1 : wr.cell? ⟨gd, k2 + 1, none⟩ = some (.int .u64 y1) := by have := HDL.out; rw [hy1, Lo.at0_get (by omega)]; exact HLS.out.dcell (by omega)
      have t0 : wr.cell? ⟨gd, k2, none⟩ = some (.int .u64 y0) := by have := HDL.out; rw [hy0, Lo.at0_get (by omega)]; exact HLS.out.dcell (by omega)
      rw [← hx2, ← hx1, ← hx0, ← hy1, ← hy0] at HG
      have HGG := Aside0.mk HG
      have HG0 := Aside0.mk hg0
      obtain ⟨j2, hj2⟩ : ∃ p, p = j + k2 + 2 := ⟨_, rfl⟩
      obtain ⟨j1, hj1⟩ : ∃ p, p = j + k2 + 1 := ⟨_, rfl⟩
      obtain ⟨j0, hj0⟩ : ∃ p, p = j + k2 := ⟨_, rfl⟩
      obtain ⟨e1, he1⟩ : ∃ p, p = k2 + 1 := ⟨_, rfl⟩
      rw [← hj2] at f2
      rw [← hj1] at f1
      rw [← hj0] at f0
      rw [← he1] at t1
      have HJ := Aside0.mk (show j2 = j + k2 + 2 ∧ j1 = j + k2 + 1 ∧ j0 = j + k2 ∧ e1 = k2 + 1 from ⟨hj2, hj1, hj0, he1⟩)
      have n0 : decide ((0 : Int) ≤ (j : Int)) = true := decide_eq_true (Int.natCast_nonneg j)
      obtain ⟨⟨a1, a2, a3, a4, a5⟩, ⟨b1, b2, b3, b4, b5⟩, b6, b7, b8, b9, b10⟩ := idx_ok HJ.out HK2.out HK.out
      clear HG hg0 hx2 hx1 hx0 hy1 hy0 hj2 hj1 hj0 he1 hk2 ej hi
      have a1' := (i64_w _).trans a1
      have a2' := (i64_w _).trans a2
      have a3' := (i64_w _).trans a3
      have a4' := (i64_w _).trans a4
      have a5' := (i64_w _).trans a5
      go_upto_region 8 with fail
      go_quiet ((exact Calls.quiet_of (HGG.out _)))
      have HLS2 := Aside0.mk (HLS.out.below (pw_below_drewN (Below.refl wr.heap.size wr) nq))
      have HPT := Aside0.mk (show (Lo.part r k j).length = k + 1 ∧ 0 ≤ V (Lo.part r k j) ∧ V (Lo.part r k j) < B * V d ∧ 0 < V d from ⟨HLI.out.part_len, HLI.out.part_val.1, HLI.out.part_val.2.1, HLI.out.D0.1⟩)
      clear HLS HGG a1 a2 a3 a4 a5 b1 b2 b3 b4 b5 b6 b7 b8 b9 b10 a1' a2' a3' a4' a5' f0 f1 f2 t0 t1 n0
      obtain ⟨j3, hj3⟩ : ∃ p, p = j2 + 1 := ⟨_, rfl⟩
      obtain ⟨a1, a2, b1, b2, b3, b4, b5⟩ := idx_cut HJ.out HK2.out HK.out hj3
      have HJ3 := Aside0.mk hj3
      generalize wr.drewN nq = W2 at HLS2 ⊢
      clear hj3
      go_upto_region 10 with fail
      obtain ⟨l3, hl3⟩ : ∃ l, l = j3 - j := ⟨_, rfl⟩
      have HL3 := Aside0.mk (show l3 = (Lo.part r k j).length by have := HPT.out.1; have := HJ3.out; have := HJ.out; have := HK2.out; omega)
      obtain ⟨pt, hpt⟩ : ∃ pt, pt = Lo.part r k j := ⟨_, rfl⟩
      have HQL := Aside0.mk (div_ok HPT.out.2.2.2 (V (Lo.part r k j)))
      obtain ⟨qq, hqq⟩ : ∃ qq, qq = V (Lo.part r k j) / V d := ⟨_, rfl⟩
      have HPP := Aside0.mk hpt
      rw [← hqq] at HQL HG0
      have HQ0 := Aside0.mk (HLI.out.limb HQL.out.1 HQL.out.2)
      rw [← hpt] at HL3 HPT HQL
      rw [← hl3]
      clear hl3 hpt hqq a1 a2 b1 b2 b3 b4 b5
      go_loopw [12, 14] (fun v12 v14 wi => ∃ g : Int, v12 = .int .u64 g ∧ Aside0 (qq ≤ g ∧ 0 ≤ g ∧ g < B) ∧ Aside0 (LS w wi gr gd gq m k mq cr cd cq r d q)) (fun v12 _ _ => (intOf v12 - qq).toNat)
      case atStart => exact ⟨g0, rfl, HG0, HLS2⟩
      case round =>
        clear HG0 HLS2
        obtain ⟨g, rfl, HG, HLS⟩ := hrel
        go_wp2_with fail
        refine (of_rd wr HG.out.2).mono ?_
        rintro e wa ⟨Ao, co, og, rfl, hb1, i1, i2, i3, i4⟩
        have HLa := Aside0.mk (HLS.out.below hb1)
        have HSC := Aside0.mk (school_rd wa (HLa.out.rdd HDL.out.1) i1 (by have := HDL.out; omega))
        rw [HDL.out.2.2.1] at HSC
        have HOG := Aside0.mk (And.intro i3 i4)
        clear hb1 i1 i2 i3 i4 HLS
        go_wp2_with fail
        refine HSC.out.mono ?_
        rintro e wb ⟨Ap, cp, p, rfl, hb1, i1, i2, i3, i4⟩
        have HLb := Aside0.mk (HLa.out.below hb1)
        have HP := Aside0.mk (show Rd wb Ap cp p ∧ Rt p ∧ V p = V d * g ∧ p.length ≤ 200 from ⟨i1, i2, by rw [i3, HOG.out.1], by have := HOG.out.2; have := HDL.out; omega⟩)
        have hpart := HLb.out.part (j := j) HLI.out.rl (by have := HK.out; omega)
        rw [← HPP.out] at hpart
        have HCL := Aside0.mk (Ng.clone_rd wb hpart (by have := HPT.out.1; have := HDL.out; omega))
        rw [← HL3.out] at HCL
        clear hb1 i1 i2 i3 i4 HLa HSC HOG hpart
        go_wp2_with fail
        refine HCL.out.mono ?_
        rintro e wc ⟨Ac, cc, cl, rfl, hb1, i1, hcl⟩
        have hcl2 := hcl.symm
        subst hcl2
        clear hcl
        have HLc := Aside0.mk (HLb.out.below hb1)
        have HPc := Aside0.mk (HP.out.1.below hb1)
        have HTR := Aside0.mk (trim_rd wc i1 (by have := HPT.out.1; have := HDL.out; omega))
        clear hb1 i1 HCL HLb
        go_wp2_with fail
        refine HTR.out.mono ?_
        rintro e wx ⟨tp, rfl, hwx, i1, i2, i3, i4⟩
        have hwx2 := hwx.symm
        subst hwx2
        have HCM := Aside0.mk (compare_rd wc i1 HPc.out i3 HP.out.2.1 (by have := HPT.out.1; have := HDL.out; omega) (by have := HP.out.2.2.2; omega))
        rw [i2] at HCM
        clear hwx i1 i2 i3 i4 HTR
        go_wp2_with fail
        refine HCM.out.mono ?_
        rintro e wd ⟨cv, rfl, hb1, hcv⟩
        have HLd := Aside0.mk (HLc.out.below hb1)
        have HPd := Aside0.mk (HPc.out.below hb1)
        clear hb1 HCM HLc HPc
        rcases hcv with ⟨hlt, hcv⟩ | ⟨hge, hcv⟩
        · have c1 : decide ((0 : Int) ≤ cv) = false := decide_eq_false (by omega)
          have hless := less_more HG.out HQL.out (by rw [← HP.out.2.2.1]; exact hlt)
          have w5 : IntKind.u64.wrap (g - 1) = g - 1 := wrapB (by have := HQ0.out; omega) (by have := HG.out.2.2; omega)
          have HLE := Aside0.mk hless
          clear hless hlt hcv
          go_wp2_with fail
          go_roundw
          case rel => exact ⟨g - 1, rfl, ⟨by have := HLE.out; have := HG.out; have := HQ0.out; omega⟩, HLd⟩
          case measure => exact gmeas HLE.out
        · have c1 : decide ((0 : Int) ≤ cv) = true := decide_eq_true hcv
          have heq : g = qq := same_limb HG.out HQL.out HPT.out.2.2.2 (by rw [← HP.out.2.2.1]; exact hge)
          have HEQ := Aside0.mk heq
          have hpart := HLd.out.part (j := j) HLI.out.rl (by have := HK.out; omega)
          rw [← HPP.out] at hpart
          have hpl := Rt.len_le HPd.out.l hpart.l HP.out.2.1 hge
          have HLS5 := Aside0.mk (less_rd wd hpart HPd.out (by have := HPT.out.1; have := HDL.out; omega) hpl hge)
          rw [← HL3.out] at HLS5
          clear heq hge hcv hpart hpl
          go_wp2_with fail
          refine HLS5.out.mono ?_
          rintro e we ⟨An, cn, nw, rfl, hb1, i1, i2, i3⟩
          have HLe := Aside0.mk (HLd.out.below hb1)
          have HNW := Aside0.mk (show Rd we An cn nw ∧ nw.length = l3 ∧ V nw = V pt - g * V d from ⟨i1, i2, by rw [i3, HP.out.2.2.1, Int.mul_comm]⟩)
          clear hb1 i1 i2 i3 HLS5 HLd HPd
          rw [HNW.out.2.1]
          have HNC := Aside0.mk (show Kd.C (Kd.int .u64) we An l3 nw from HNW.out.2.1 ▸ HNW.out.1.r)
          have HL1 := Aside0.mk (show 0 < l3 ∧ j + l3 ≤ r.length ∧ l3 = k + 1 by have := HL3.out; have := HPT.out.1; have := HK.out; omega)
          have HST := Aside0.mk (LI.step (g := g) HLI.out (by rw [HNW.out.2.1]; exact HL1.out.2.2) HNW.out.1.l (by rw [HNW.out.2.2, HPP.out]) (by rw [HNW.out.2.2, HEQ.out]; have := HQL.out; omega))
          rw [show j + k + 1 = j + l3 by have := HL1.out; omega] at HST
          have a1 : wrap64 ((j : Int) - 1) = (j : Int) - 1 := w_pred (by have := HK.out; omega)
          have HA1 := Aside0.mk a1
          have b1 : (0 : Int) ≤ (j : Int) := Int.natCast_nonneg j
          have b2 : (j : Int) < (mq : Int) := by have := HK.out; have := HLe.out.lens.2.2.1; omega
          go_wp2_with ((with_reducible refine gate_builtin (b := .copy) (xs := #[.tmp 95, .tmp 98]) rfl ?_); go_loud (refine R_copy_at (0 : Int) w.heap.size rfl (.tmp 95) (.tmp 98) 23 23 36 rfl Try.underlying23 (by kernel_rfl) gr m cr j l3 (cr - j) r nw An cn (fun x => x = gr) rfl rfl HL1.out.1 HL1.out.2.1 HLe.out.r HNC.out ?_); intro wg hrg hgg; have HLg := Aside0.mk (HLe.out.putr hrg hgg); obtain ⟨g1, g2⟩ := HLg.out.qcell HK.out.2.1; clear hrg hgg)
          go_roundw
          case rel => exact ⟨j, _, _, by first | rfl | exact congrArg _ HA1.out, HST, ⟨HLg.out.putq j g⟩⟩
          case measure => first | exact jmeas | (rw [HA1.out]; exact jmeas)
end Go.Proofs.Ytdaelbihfdlgkaa.Ll
