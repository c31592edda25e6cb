/- Division by two limbs and more: how its rows lie; copying into a row. -/
import Derived.Test.YtdaelbihfdlgkaaLo
import Derived.Test.YtdaelbihfdlgkaaNg
import Derived.Test.YtdaelbihfdlgkaaNh
import Derived.Deep.CutBlock
namespace Go.Proofs.Ytdaelbihfdlgkaa.Lk
open Go.RowKit Go.Proofs.Ytdaelbihfdlgkaa.Na Go.Proofs.Ytdaelbihfdlgkaa.Nv Go.Proofs.Ytdaelbihfdlgkaa.Ns Go.Proofs.Ytdaelbihfdlgkaa.Nt Go.Proofs.Ytdaelbihfdlgkaa.Np Go.Proofs.Ytdaelbihfdlgkaa.Nq Go.Proofs.Ytdaelbihfdlgkaa.No Go.Proofs.Ytdaelbihfdlgkaa.Nc Go.Proofs.Ytdaelbihfdlgkaa.Lo Go.Proofs.Ytdaelbihfdlgkaa.Fns Go.Proofs.YtdaelbihfdlgkaaW.PrintWords Go.Proofs.YtdaelbihfdlgkaaW.PrintLast Go.Proofs.YtdaelbihfdlgkaaW.PrintMore
set_option linter.unusedVariables false
set_option linter.unusedSimpArgs false
theorem R_only {w : World} {base g n c : Nat} {ok : Nat → Prop} {xs : List Int} (h : (Kd.int .u64).R 36 w base ok (.slice (some ⟨g, 0, none⟩) n c) xs) : (Kd.int .u64).R 36 w base (fun k => k = g) (.slice (some ⟨g, 0, none⟩) n c) xs :=
  Kd.R_of_own (Kd.own_of_R h) (fun k hk => by simpa [Value.ownBlock] using hk.symm)
/-- The rows of a division: what is left, the divisor, the quotient. -/
structure LS (w wr : World) (gr gd gq m k mq cr cd cq : Nat) (r d q : List Int) : Prop where
  b : Below w.heap.size w wr
  r : (Kd.int .u64).R 36 wr w.heap.size (fun x => x = gr) (.slice (some ⟨gr, 0, none⟩) m cr) r
  d : (Kd.int .u64).R 36 wr w.heap.size (fun x => x = gd) (.slice (some ⟨gd, 0, none⟩) k cd) d
  q : (Kd.int .u64).R 36 wr w.heap.size (fun x => x = gq) (.slice (some ⟨gq, 0, none⟩) mq cq) q
  ne : gr ≠ gd ∧ gr ≠ gq ∧ gd ≠ gq
  bg : w.heap.size ≤ gr ∧ w.heap.size ≤ gd ∧ w.heap.size ≤ gq
section
variable {w wr W : World} {gr gd gq m k mq cr cd cq : Nat} {r d q : List Int}
theorem LS.below (h : LS w wr gr gd gq m k mq cr cd cq r d q) (hb : Below wr.heap.size wr W) : LS w W gr gd gq m k mq cr cd cq r d q :=
  ⟨below_step h.b hb, Kd.R_below h.r hb, Kd.R_below h.d hb, Kd.R_below h.q hb, h.ne, h.bg⟩
theorem LS.lens (h : LS w wr gr gd gq m k mq cr cd cq r d q) : (m = r.length ∧ m ≤ cr) ∧ (k = d.length ∧ k ≤ cd) ∧ (mq = q.length ∧ mq ≤ cq) :=
  ⟨⟨(Kd.R_reads' h.r).1, (Kd.R_reads' h.r).2.1⟩, ⟨(Kd.R_reads' h.d).1, (Kd.R_reads' h.d).2.1⟩, ⟨(Kd.R_reads' h.q).1, (Kd.R_reads' h.q).2.1⟩⟩
theorem LS.rdr (h : LS w wr gr gd gq m k mq cr cd cq r d q) (l : Lim r) : Rd wr (some ⟨gr, 0, none⟩) cr r := by
  have e := Kd.R_reads' h.r
  exact ⟨e.2.2, e.1 ▸ e.2.1, l⟩
theorem LS.rdd (h : LS w wr gr gd gq m k mq cr cd cq r d q) (l : Lim d) : Rd wr (some ⟨gd, 0, none⟩) cd d := by
  have e := Kd.R_reads' h.d
  exact ⟨e.2.2, e.1 ▸ e.2.1, l⟩
theorem LS.rdq (h : LS w wr gr gd gq m k mq cr cd cq r d q) (l : Lim q) : Rd wr (some ⟨gq, 0, none⟩) cq q := by
  have e := Kd.R_reads' h.q
  exact ⟨e.2.2, e.1 ▸ e.2.1, l⟩
/-- What is left is written anew. -/
theorem LS.putr (h : LS w wr gr gd gq m k mq cr cd cq r d q) {r' : List Int} (hr : (Kd.int .u64).R 36 W w.heap.size (fun x => x = gr) (.slice (some ⟨gr, 0, none⟩) m cr) r') (hg : wr.grownBy W (some gr)) : LS w W gr gd gq m k mq cr cd cq r' d q := by
  have hk : Kept wr W (fun x => x = gr) := Kept.of_grown hg (Kept.refl wr _) (fun x hx => .inl (by injection hx with hx; exact hx.symm))
  exact ⟨h.b.grown hg h.b.size (fun x hx => by injection hx with hx; subst hx; exact h.bg.1), hr, Kd.R_kept h.d hk (fun x hx e => h.ne.1 (by rw [← e, hx])), Kd.R_kept h.q hk (fun x hx e => h.ne.2.1 (by rw [← e, hx])), h.ne, h.bg⟩
/-- A limb of the quotient. -/
theorem LS.putq (h : LS w wr gr gd gq m k mq cr cd cq r d q) (j : Nat) (v : Int) : LS w (wr.setCell ⟨gq, j, none⟩ (.int .u64 v)) gr gd gq m k mq cr cd cq r d (q.set j v) := by
  have hp := Kd.R_putg h.q (j : Int) v
  rw [Int.toNat_natCast] at hp
  have hg := hp.2
  have hk : Kept wr (wr.setCell ⟨gq, j, none⟩ (.int .u64 v)) (fun x => x = gq) := Kept.of_grown hg (Kept.refl wr _) (fun x hx => .inl (by injection hx with hx; exact hx.symm))
  exact ⟨h.b.grown hg h.b.size (fun x hx => by injection hx with hx; subst hx; exact h.bg.2.2), Kd.R_kept h.r hk (fun x hx e => h.ne.2.1 (by rw [← e, hx])), Kd.R_kept h.d hk (fun x hx e => h.ne.2.2 (by rw [← e, hx])), hp.1, h.ne, h.bg⟩
theorem LS.qcell (h : LS w wr gr gd gq m k mq cr cd cq r d q) {j : Nat} (hj : j < q.length) : wr.cell? ⟨gq, j, none⟩ = some (.int .u64 q[j]) ∧ wr.frozen? ⟨gq, j, none⟩ = false := by
  have hl := h.lens
  obtain ⟨g1, g2⟩ := Kd.R_celln 0 h.q (j : Int) (by omega) (by omega)
  rw [show rdOf 0 q (j : Int) = q[j] by simp [rdOf, hj], Int.toNat_natCast] at g1
  rw [Int.toNat_natCast] at g2
  exact ⟨g1, g2⟩
theorem LS.rcell (h : LS w wr gr gd gq m k mq cr cd cq r d q) {j : Nat} (hj : j < r.length) : wr.cell? ⟨gr, j, none⟩ = some (.int .u64 r[j]) := by
  have hl := h.lens
  obtain ⟨g1, g2⟩ := Kd.R_celln 0 h.r (j : Int) (by omega) (by omega)
  rw [show rdOf 0 r (j : Int) = r[j] by simp [rdOf, hj], Int.toNat_natCast] at g1
  exact g1
theorem LS.dcell (h : LS w wr gr gd gq m k mq cr cd cq r d q) {j : Nat} (hj : j < d.length) : wr.cell? ⟨gd, j, none⟩ = some (.int .u64 d[j]) := by
  have hl := h.lens
  obtain ⟨g1, g2⟩ := Kd.R_celln 0 h.d (j : Int) (by omega) (by omega)
  rw [show rdOf 0 d (j : Int) = d[j] by simp [rdOf, hj], Int.toNat_natCast] at g1
  exact g1
/-- The limbs that are divided next, read. -/
theorem LS.part (h : LS w wr gr gd gq m k mq cr cd cq r d q) (l : Lim r) {j : Nat} (hj : j + k + 1 ≤ r.length) : Rd wr (some ⟨gr, j, none⟩) (cr - j) (Lo.part r k j) := by
  have hl := h.lens
  have hc := Kd.C_mid (c := cr) (h.rdr l).r (show j ≤ j + k + 1 by omega) hj (by omega)
  rw [show j * (Kd.int .u64).sz = j from Nat.mul_one _, if_neg (by omega)] at hc
  have e : (some (⟨gr, 0, none⟩ : Addr)).map (·.add j) = some ⟨gr, j, none⟩ := by rw [Option.map_some, add_plain]
  rw [e] at hc
  refine ⟨hc, ?_, (l.take _).drop _⟩
  unfold Lo.part
  rw [List.length_drop, List.length_take]
  omega
end
section
variable {P : Program} {ops : Array Oper} {rest : List Oper} {o : Oper} {a : Act} {Q : Exit → Act → World → Prop} {α : Type}
/-- copy(v[j:j+m], ys), v a row of one's own. -/
theorem R_copy_at {enc : α → Value} {h1 : ∀ x, (enc x).oneCell' = true} (d : α) {W : World} (base : Nat) (hgd : o.guard = none) (s x : Operand) (t t' e : TypeId)
    (ho : o.op = .call { callee := .builtin .copy, args := #[s, x], argTypes := #[t, t'] }) (ht : P.underlying t = some (.slice e)) (hinfo : (P.info? e).map (·.size) = some 1)
    (g n cap j m c1 : Nat) (xs ys : List α) (A : Option Addr) (c : Nat) (ok : Nat → Prop) (hs : a.eval s = .slice (some ⟨g, j, none⟩) m c1) (hx : a.eval x = .slice A m c) (hm0 : 0 < m) (hfit : j + m ≤ xs.length)
    (HO : (Kd.scalar enc h1).R e W base ok (.slice (some ⟨g, 0, none⟩) n cap) xs) (HR : (Kd.scalar enc h1).C W A m ys)
    (h : ∀ w1, (Kd.scalar enc h1).R e w1 base ok (.slice (some ⟨g, 0, none⟩) n cap) (xs.take j ++ ys ++ xs.drop (j + m)) → W.grownBy w1 (some g) → wpList P ops Q rest (a.put o.dst (.int .i64 ((m : Nat) : Int))) w1) :
    wpList P ops Q (o :: rest) a W := by
  have hR := Kd.reads_of_C (enc := enc) (d := d) (h1 := h1) HR
  have hm : ys.length = m := hR.1
  have hown := Kd.own_of_R HO
  obtain ⟨rfl, _, _⟩ := Kd.R_reads' HO
  obtain ⟨ad, rfl, hc⟩ := hR.2.2 hm0
  rcases hown.2 with ⟨he, hx0⟩ | ⟨g', cap', cur, hv, hb, hh, hnc, hcm, hcs, htake⟩
  · omega
  injection hv with hv1 hv2 hv3
  injection hv1 with hv1
  injection hv1 with hv1 _ _
  subst hv1
  subst hv3
  have hcs1 : cur.size = cap := by omega
  have hkl : (encs enc ys).length = m := by rw [encs_length, hm]
  have hsrc : ∀ i u, (encs enc ys)[i]? = some u → W.cell? (ad.add i) = some u := by
    intro i u hu
    have hi : i < ys.length := by
      rcases Nat.lt_or_ge i ys.length with h | h
      · exact h
      · rw [List.getElem?_eq_none (by rw [encs_length]; exact h)] at hu
        cases hu
    rw [encs_get (d := d) _ i hi] at hu
    rw [hc i (by omega), ← hu]
  have hr := run_copy_cells (P := P) W t t' o.type e g j m c1 ad m c (encs enc ys) ht hinfo (hkl.trans (Nat.min_self m).symm) hsrc
    (fun i hi => by rw [cell_of_row W g _ cur e (0, 0) hh]; simp; omega) (fun i _ => blk_frozen hh _) (by intro u hu; simp only [encs, List.mem_map] at hu; obtain ⟨q, _, rfl⟩ := hu; exact h1 q)
  obtain ⟨cur', h3, h4, h5⟩ := setCells_row (encs enc ys) j W cur hh (by rw [hkl]; omega)
  obtain ⟨s1, s2, s3, s4⟩ := setCells_same g (encs enc ys) j W
  refine wpList_plain hgd fun K hK => ?_
  unfold Oper.wp execOp
  simp only [ho, resolve, invoke, builtin, Sem.run_bind, Sem.run_pure, Result.andThen_ok, List.map_toArray, List.map_cons, List.map_nil, hs, hx, hr, hkl]
  have hln : (xs.take j ++ ys ++ xs.drop (j + m)).length = xs.length := by
    rw [List.length_append, List.length_append, List.length_take, List.length_drop]
    omega
  have hrow : (W.setCells g j (encs enc ys)).ownsRow base e 1 (.slice (some ⟨g, 0, none⟩) (xs.take j ++ ys ++ xs.drop (j + m)).length cap) (xs.take j ++ ys ++ xs.drop (j + m)).length (encs enc (xs.take j ++ ys ++ xs.drop (j + m))) := by
    rw [hln]
    refine ⟨by rw [encs_length, hln, Nat.mul_one], .inr ⟨g, cap, cur', rfl, hb, h3, hnc, hcm, by rw [h4, hcs], ?_⟩⟩
    have htk : cur.toList.take xs.length = encs enc xs := by rw [← htake, Nat.mul_one]
    have e1 : cur.toList.take j = encs enc (xs.take j) := by
      have : encs enc (xs.take j) = (encs enc xs).take j := by simp [encs, List.map_take]
      rw [this, ← htk, List.take_take, Nat.min_eq_left (by omega)]
    have e2 : (cur.toList.drop (j + m)).take (xs.length - (j + m)) = encs enc (xs.drop (j + m)) := by
      have : encs enc (xs.drop (j + m)) = (encs enc xs).drop (j + m) := by simp [encs, List.map_drop]
      rw [this, ← htk, List.drop_take]
    rw [h5, Nat.mul_one, hkl, e1, encs_append, encs_append]
    have l1 : (encs enc (xs.take j) ++ encs enc ys).length = j + m := by rw [List.length_append, encs_length, hkl, List.length_take]; omega
    rw [List.take_append, l1, List.take_of_length_le (by rw [l1]; omega), e2]
  refine hK _ _ (h _ ?_ ⟨s1, s2, s3, by rw [s4]; exact Nat.le_refl _, fun k _ hk => setCells_far _ _ k (fun he => hk (by rw [he]))⟩)
  have hres := Kd.R_of_own (h1 := h1) hrow HO.1
  rw [hln] at hres
  exact hres
end
end Go.Proofs.Ytdaelbihfdlgkaa.Lk
