/- Parts of the proof of LinkScripts, merged: each is proved for all its inputs. -/
import Derived.Test.YtekakngojhnleaaMgLinkScriptsg
import Derived.BigRegion
import Derived.Deep.CutRange
/- Links: In of the program walked: a frame that is taken. -/
namespace Go.Proofs.Ytekakngojhnleaa.Le
open Go.RowKit Go.Maps Go.Proofs.Ytekakngojhnleaa.Mp Go.Proofs.Ytekakngojhnleaa.Mq Go.Proofs.Ytekakngojhnleaa.Lp Go.Proofs.Ytekakngojhnleaa.Lm Go.Proofs.Ytekakngojhnleaa.La Go.Proofs.Ytekakngojhnleaa.Lb Go.Proofs.Ytekakngojhnleaa.Lc Go.Proofs.Ytekakngojhnleaa.Ld Go.Proofs.Ytekakngojhnleaa.Dw Go.Proofs.YtekakngojhnleaaW.PrintWords Go.Proofs.YtekakngojhnleaaW.PrintLast Go.Proofs.YtekakngojhnleaaW.PrintMore
set_option linter.unusedVariables false
set_option linter.unusedSimpArgs false
variable {w : World} {B N p : Nat} {S : Nat → Prop} {σ : Lk}

/-- What stands while a frame is taken: the end, the frame's own block, its body. -/
structure Mid (w u : World) (B N : Nat) (S : Nat → Prop) (p g : Nat) (σ : Lk) (d : Bool) (s a : Int) (A1 : Option Addr) (c1 : Nat) (l : List Int) : Prop where
  lp : ∃ S', LP u B N S' p σ ∧ FrL B S S' w u
  fr : u.heap[g]? = some (.cells #[.bool d, .int .i64 s, .int .i64 a, .slice A1 l.length c1] 53 (0, 0))
  bd : Bd u B (encH ⟨A1, l.length, c1⟩) l
  ge : w.heap.size ≤ g
theorem mid0 {w1 : World} {b n s : Nat} {vq vi : Value} {hq hi : List Hd} {f : Int → Option Value} (h : LPx w B N S p σ b vq vi hq hi n s f) (hB : B ≤ w.heap.size) (hb : Below w.heap.size w w1) {A1 : Option Addr} {c1 : Nat} {m : List Int} (hbd : Bd w1 B (encH ⟨A1, m.length, c1⟩) m) (d : Bool) (s' a : Int) :
    Mid w (w1.alloc (.cells #[.bool d, .int .i64 s', .int .i64 a, .slice A1 m.length c1] 53)).drew B N S p w1.heap.size σ d s' a A1 c1 m := by
  have hb1 : Below w1.heap.size w1 (w1.alloc (.cells #[.bool d, .int .i64 s', .int .i64 a, .slice A1 m.length c1] 53)).drew := below_drew (below_alloc (Below.refl _ w1) _)
  have hb2 := hb.trans (hb1.mono hb.size)
  exact ⟨⟨S, ⟨b, vq, vi, hq, hi, n, s, f, LPx.below h hb2⟩, ⟨hb2.mono hB, Kept.of_below hb2 S, Keep5.below hb2, fun k hk => .inl hk⟩⟩, blk_new w1 _, hbd.keep (Keep5.below hb1), hb.size⟩
theorem FrL.below {S' : Nat → Prop} {u u' : World} (h : FrL B S S' w u) (hb : Below u.heap.size u u') (hB : B ≤ u.heap.size) : FrL B S S' w u' :=
  FrL.trans h ⟨hb.mono hB, Kept.of_below hb S', Keep5.below hb, fun _ h => .inl h⟩
theorem Mid.below {u u' : World} {g : Nat} {d : Bool} {s a : Int} {A1 : Option Addr} {c1 : Nat} {m : List Int} (h : Mid w u B N S p g σ d s a A1 c1 m) (hb : Below u.heap.size u u') : Mid w u' B N S p g σ d s a A1 c1 m := by
  obtain ⟨⟨S1, hl, hf⟩, hfr, hbd, hge⟩ := h
  have hB : B ≤ u.heap.size := by obtain ⟨b, vq, vi, hq, hi, n, sz, f, hx⟩ := hl; have := hx.ge p hx.sp; have := blk_lt hx.blk; omega
  exact ⟨⟨S1, LP.below hl hb, FrL.below hf hb hB⟩, blk_below hfr hb, hbd.keep (Keep5.below hb), hge⟩
theorem ne_frame {u : World} {g : Nat} {cs : Array Value} {b n s : Nat} {vq vi : Value} {hq hi : List Hd} {f : Int → Option Value} (h : LPx u B N S p σ b vq vi hq hi n s f) (hg : u.heap[g]? = some (.cells cs 53 (0, 0))) : ∀ k, S k → k = p ∨ k = b ∨ some k = vq.ownBlock ∨ some k = vi.ownBlock → k ≠ g := by
  intro k hk hh e
  subst e
  rcases hh with rfl | rfl | h1 | h1
  · rw [h.blk] at hg; cases hg
  · exact h.m.ne_cells hg rfl
  · obtain ⟨cs', hc⟩ := Kd.Q_typed h.q k h1.symm; rw [hc] at hg; cases hg
  · obtain ⟨cs', hc⟩ := Kd.Q_typed h.i k h1.symm; rw [hc] at hg; cases hg
theorem mid_ack {u : World} {g : Nat} {b n sz : Nat} {vq vi : Value} {hq hi : List Hd} {f : Int → Option Value} {S1 : Nat → Prop} {d : Bool} {s : Int} {A1 : Option Addr} {c1 : Nat} {m : List Int} {a : Nat} {x : Int} (h : LPx u B N S1 p σ b vq vi hq hi n sz f) (hf : FrL B S S1 w u)
    (hblk : u.heap[g]? = some (.cells #[.bool d, .int .i64 s, .int .i64 x, .slice A1 m.length c1] 53 (0, 0))) (hbd : Bd u B (encH ⟨A1, m.length, c1⟩) m) (hge : w.heap.size ≤ g) (hsa : σ.sure ≤ a) (v' : Value) (hq' : kH.Q 30 u B (fun k => some k = vq.ownBlock) v' (hq.drop (a - σ.sure))) :
    Mid w ((u.setCell ⟨p, 1, none⟩ v').setCell ⟨p, 2, none⟩ (.int .i64 (a : Int))).drew B N S p g { σ with sure := a } d s x A1 c1 m := by
  have hpg : p ≠ g := ne_frame h hblk p h.sp (.inl rfl)
  obtain ⟨h1, h2⟩ := ack_end h a v' hq' hsa
  have hm : Mid w ((u.setCell ⟨p, 1, none⟩ v').setCell ⟨p, 2, none⟩ (.int .i64 (a : Int))) B N S p g { σ with sure := a } d s x A1 c1 m :=
    ⟨⟨S1, ⟨_, _, _, _, _, _, _, _, h1⟩, FrL.trans hf h2⟩, by rw [Below.heap_setCell _ _ _ _ (fun e => hpg e.symm), Below.heap_setCell _ _ _ _ (fun e => hpg e.symm)]; exact hblk, hbd.keep h2.k5, hge⟩
  exact hm.below (below_drew (Below.refl _ _))
theorem law : Keyed Try.prog 3 := int_keyed Try.underlying3
section
variable {P : Program} {k t e : TypeId} {b n s : Nat} {f : Int → Option Value}
/-- The run of 'v, ok := m[k]', for regions. -/
theorem run_look_ok (K : Keyed P k) (hk : P.underlying k = some (.int .i64)) (ht : P.underlying t = some (.map k e)) {z : Value} (hz : (zeroValue e).run P w = .ok z w) (hown : IntMap P k w b n f s) (y : Int) (hy : I64 y) :
    (Instr.lookup t (.map (some b)) (.int .i64 y) true).run P w = .ok (.tuple #[(f y).getD z, .bool (f y).isSome]) w := by
  obtain ⟨D, hD, hs, hf⟩ := hown
  obtain ⟨v, ps, hrun, hv⟩ := hD.look_ok K ht hz (R := RV) (zd := .held z) (zp := []) rfl (keyOf_int_mk hk hy)
  obtain ⟨h1, h2⟩ := hf y hy
  have : v = (f y).getD z := by
    have hv' : DataW.held v = D.atKey (kl y) (.held z) := congrArg Prod.fst (Option.some.inj hv)
    cases h : f y with
    | none =>
      rw [h] at h1
      rw [atKey_of_not_has h1] at hv'
      injection hv'
    | some u =>
      rw [h2 u h] at hv'
      injection hv'
  rw [← this, ← h1]
  exact hrun
/-- The run of 'delete(m, k)', for regions. -/
theorem run_delete (K : Keyed P k) (hk : P.underlying k = some (.int .i64)) (ht : P.underlying t = some (.map k e)) (hown : IntMap P k w b n f s) (y : Int) (hy : I64 y) :
    ∃ w', (∀ ty, (Builtin.delete_ #[t, k] ty #[.map (some b), .int .i64 y]).run P w = .ok (.tuple #[]) w') ∧ IntMap P k w' b n (upd f y none) (s - (if (f y).isSome then 1 else 0)) ∧ w.grownBy w' (some b) := by
  obtain ⟨D, hD, hs, hf⟩ := hown
  obtain ⟨w', hrun, h1, h2⟩ := hD.drop K ht (kl := kl y) (keyOf_int_mk hk hy) 0
  obtain ⟨g1, g2⟩ := IntMap.del D (hD.tidy K) hf y hy
  refine ⟨w', fun ty => ?_, ⟨_, h1, by rw [g1, hs], g2⟩, h2.grown⟩
  exact hrun
end
theorem zero30 (w : World) : (zeroValue 30).run Try.prog w = .ok (.slice none 0 0) w := by kernel_rfl
theorem LP.monoN {u : World} {M : Nat} (h : LP u B N S p σ) (hm : N ≤ M) : LP u B M S p σ := by
  obtain ⟨b, vq, vi, hq, hi, n, s, f, h⟩ := h
  exact ⟨b, vq, vi, hq, hi, n, s, f, h.blk, h.q, h.qb, h.i, h.ib, h.m, Nat.le_trans h.mn hm, h.mf, h.sp, h.sb, h.sq, h.si, h.ap, h.lt, h.ge⟩
theorem mid_owes {u : World} {g : Nat} {d : Bool} {s a : Int} {A1 : Option Addr} {c1 : Nat} {m : List Int} (h : Mid w u B N S p g σ d s a A1 c1 m) : Mid w (u.setCell ⟨p, 7, none⟩ (.bool true)) B N S p g { σ with owes := true } d s a A1 c1 m := by
  obtain ⟨⟨S1, ⟨b, vq, vi, hq, hi, n, sz, f, hx⟩, hf⟩, hfr, hbd, hge⟩ := h
  have hpg : p ≠ g := ne_frame hx hfr p hx.sp (.inl rfl)
  obtain ⟨g0, g1, g2, g3, g4, g5, g6, g7⟩ := LPx.put hx 7 (.bool true)
  refine ⟨⟨S1, ⟨b, vq, vi, hq, hi, n, sz, f, g0, g1, g2, g3, g4, g5, hx.mn, g6, hx.sp, hx.sb, hx.sq, hx.si, hx.ap, ?_, hx.ge⟩, FrL.trans hf (FrL.set (hx.ge p hx.sp) hx.sp ⟨_, hx.blk⟩ 7 _)⟩, by rw [Below.heap_setCell _ _ _ _ (fun e => hpg e.symm)]; exact hfr, hbd.keep g7, hge⟩
  intro k hk
  rw [World.size_setCell]
  exact hx.lt k hk
theorem takeH_ok {M : Nat} (h : Lp.Inv M σ) {s : Int} {m : List Int} (hok : okB m) : HW (takeH σ s m) σ.all ((σ.all.length : Int) + 16) := by
  refine ⟨fun x l hx => ?_, h.ha⟩
  unfold takeH at hx
  split at hx
  · rename_i hc
    unfold setH at hx
    by_cases e : x = s
    · rw [if_pos e] at hx
      cases hx
      rw [e]
      exact ⟨hc.2.1, hc.2.2, hok⟩
    · rw [if_neg e] at hx
      have := h.hh x l hx
      exact ⟨by omega, this.2⟩
  · have := h.hh x l hx
    exact ⟨by omega, this.2⟩
theorem mid_store {u w6 : World} {g : Nat} {b n sz s' : Nat} {vq vi : Value} {hq hi : List Hd} {f : Int → Option Value} {S1 : Nat → Prop} {d : Bool} {s a : Int} {A1 : Option Addr} {c1 : Nat} {m : List Int} (h : LPx u B N S1 p σ b vq vi hq hi n sz f) (hf : FrL B S S1 w u)
    (hblk : u.heap[g]? = some (.cells #[.bool d, .int .i64 s, .int .i64 a, .slice A1 m.length c1] 53 (0, 0))) (hbd : Bd u B (encH ⟨A1, m.length, c1⟩) m) (hge : w.heap.size ≤ g)
    (hm : IntMap Try.prog 3 w6 b (n + 1) (upd f s (some (.slice A1 m.length c1))) s') (hg : u.grownBy w6 (some b)) : Mid w w6 B (N + 1) S p g { σ with hold := setH σ.hold s (some m) } d s a A1 c1 m := by
  obtain ⟨h1, h2⟩ := map_end h s (some (.slice A1 m.length c1)) (some m) hm hg (Nat.succ_le_succ h.mn) ⟨_, rfl, hbd⟩
  exact ⟨⟨S1, ⟨_, _, _, _, _, _, _, _, h1⟩, FrL.trans hf h2⟩, (hg.block g (blk_lt hblk) (fun e => h.m.ne_cells hblk (Option.some.inj e).symm)).trans hblk, hbd.keep h2.k5, hge⟩
/-- The loop that takes what comes in its turn. -/
structure LpR (w wr : World) (B N : Nat) (S : Nat → Prop) (p : Nat) (σ : Lk) (v : Value) (is : Bool) (k : Nat) (h : Int → Option (List Int)) (al : List (List Int)) : Prop where
  lp : ∃ S', LP wr B N S' p { σ with hold := h, all := al } ∧ FrL B S S' w wr
  pl : pull k h al = pull 17 σ.hold σ.all
  hw : HW h al ((σ.all.length : Int) + 16)
  top : σ.all.length + 16 ≤ al.length + k
  ln : σ.all.length ≤ al.length
  tl : σ.told ≤ al.length
  is' : is = (h (al.length : Int)).isSome
  v' : ∀ l, h (al.length : Int) = some l → ∃ A c, v = .slice A l.length c ∧ Bd wr B v l
theorem look_of {u : World} {b n sz : Nat} {vq vi : Value} {hq hi : List Hd} {f : Int → Option Value} {S1 : Nat → Prop} (h : LPx u B N S1 p σ b vq vi hq hi n sz f) {x : Int} (h64 : I64 x) {w' : World} (hk : Keep5 u w') :
    (f x).isSome = (σ.hold x).isSome ∧ ∀ l, σ.hold x = some l → ∃ A c, (f x).getD (.slice none 0 0) = .slice A l.length c ∧ Bd w' B ((f x).getD (.slice none 0 0)) l := by
  have hm := h.mf _ h64
  refine ⟨?_, fun l hl => ?_⟩
  · cases hy : σ.hold x with
    | none => rw [hy] at hm; rw [hm]; rfl
    | some l => rw [hy] at hm; obtain ⟨v, hv, _⟩ := hm; rw [hv]; rfl
  · rw [hl] at hm
    obtain ⟨v, hv, hbd⟩ := hm
    rw [hv]
    obtain ⟨A, c, e⟩ := Kd.R_slice hbd
    exact ⟨A, c, e, hbd.keep hk⟩
theorem lp_start {u : World} {b n sz : Nat} {vq vi : Value} {hq hi : List Hd} {f : Int → Option Value} {S1 : Nat → Prop} (h : LPx u B N S1 p σ b vq vi hq hi n sz f) (hf : FrL B S S1 w u) (h64 : I64 (σ.all.length : Int)) (hw : HW σ.hold σ.all ((σ.all.length : Int) + 16)) (ht : σ.told ≤ σ.all.length) :
    LpR w u.drew B N S p σ ((f (σ.all.length : Int)).getD (.slice none 0 0)) (f (σ.all.length : Int)).isSome 17 σ.hold σ.all := by
  have hb : Below u.heap.size u u.drew := below_drew (Below.refl _ u)
  have hB : B ≤ u.heap.size := by have := h.ge p h.sp; have := blk_lt h.blk; omega
  obtain ⟨h1, h2⟩ := look_of h h64 (Keep5.below hb)
  exact ⟨⟨S1, LP.below ⟨b, vq, vi, hq, hi, n, sz, f, h⟩ hb, FrL.below hf hb hB⟩, rfl, hw, by omega, Nat.le_refl _, ht, h1, h2⟩
theorem pull_none : ∀ (k : Nat) {h : Int → Option (List Int)} {al : List (List Int)}, h (al.length : Int) = none → pull k h al = (h, al)
  | 0, h, al, _ => rfl
  | k + 1, h, al, he => by unfold pull; rw [he]
theorem lpr_next {wr u : World} {v : Value} {is : Bool} {k : Nat} {h : Int → Option (List Int)} {al : List (List Int)} {l : List Int} (hL : LpR w wr B N S p σ v is k h al) (he : h (al.length : Int) = some l) {S1 : Nat → Prop} {b n sz : Nat} {vq vi : Value} {hq hi : List Hd} {f : Int → Option Value}
    (hx : LPx u B N S1 p { σ with hold := setH h (al.length : Int) none, all := al ++ [l] } b vq vi hq hi n sz f) (hf : FrL B S S1 w u) (h64 : I64 (((al.length + 1 : Nat) : Nat) : Int)) :
    ∃ k', LpR w u.drew B N S p σ ((f ((al.length + 1 : Nat) : Int)).getD (.slice none 0 0)) (f ((al.length + 1 : Nat) : Int)).isSome k' (setH h (al.length : Int) none) (al ++ [l]) := by
  have hb : Below u.heap.size u u.drew := below_drew (Below.refl _ u)
  have hB : B ≤ u.heap.size := by have := hx.ge p hx.sp; have := blk_lt hx.blk; omega
  obtain ⟨h1, h2⟩ := look_of hx h64 (Keep5.below hb)
  have hlt := (hL.hw.1 _ _ he).2.1
  have htop := hL.top
  have hlen : (al ++ [l]).length = al.length + 1 := by simp
  obtain ⟨k', rfl⟩ : ∃ k', k = k' + 1 := ⟨k - 1, by omega⟩
  refine ⟨k', ⟨S1, LP.below ⟨b, vq, vi, hq, hi, n, sz, f, hx⟩ hb, FrL.below hf hb hB⟩, ?_, ⟨fun x l' hx' => ?_, fun l' hl' => ?_⟩, by rw [hlen]; omega, by rw [hlen]; have := hL.ln; omega, by rw [hlen]; have := hL.tl; omega, by rw [hlen]; exact h1, fun l' hl' => by rw [hlen] at hl'; exact h2 l' hl'⟩
  · rw [← hL.pl]
    conv => rhs; unfold pull
    rw [he]
  · unfold setH at hx'
    by_cases e : x = (al.length : Int)
    · rw [if_pos e] at hx'; cases hx'
    · rw [if_neg e] at hx'
      have := hL.hw.1 x l' hx'
      rw [hlen]
      exact ⟨by omega, this.2⟩
  · rcases List.mem_append.1 hl' with h1 | h1
    · exact hL.hw.2 l' h1
    · rw [List.mem_singleton] at h1; subst h1; exact (hL.hw.1 _ _ he).2.2
set_option maxRecDepth 100000 in
set_option maxHeartbeats 1000000 in
theorem in_yes (h : LP w B N S p σ) {M : Nat} (hI : Inv M σ) (hM : M ≤ 1000000) (hNm : N < maxLen) (A : Option Addr) (c : Nat) (l : List Int) (hr : Kd.C (Kd.int .u8) w A l.length l) (hc : l.length ≤ c) (hl : l.length ≤ 140737488351232) (hb : ∀ x ∈ l, 0 ≤ x ∧ x < 256) (hE : (decA l).2 = 0) (hA : (decA l).1.2.2.1 ≤ (σ.sent : Int)) :
    Calls Try.prog 22 #[.pointer (some ⟨p, 0, none⟩), .slice A l.length c] w fun e w' => e = .returned (.int .i64 (inL σ l).1) ∧ ∃ S', LP w' B (N + 1) S' p (inL σ l).2 ∧ FrL B S S' w w' := by
  obtain ⟨R, hR⟩ : ∃ R, R = inL σ l := ⟨_, rfl⟩
  rw [← hR]
  unfold inL at hR
  rw [if_neg (by omega)] at hR
  have hnn := dec_nums l hE
  have hok := dec_ok l hb hE
  obtain ⟨F, E, hd⟩ : ∃ F E, decA l = (F, E) := ⟨_, _, rfl⟩
  rw [hd] at hE hA hR hnn hok
  obtain ⟨d, s, a', m⟩ := F
  obtain rfl : E = 0 := hE
  change a' ≤ (σ.sent : Int) at hA
  obtain ⟨n0, n1, n2, n3⟩ := hnn
  change 0 ≤ s at n0; change s ≤ 1073741824 at n1; change 0 ≤ a' at n2; change a' ≤ 1073741824 at n3; change okB m at hok
  obtain ⟨a, rfl⟩ : ∃ k : Nat, a' = (k : Int) := ⟨a'.toNat, by omega⟩
  simp only [Int.toNat_natCast] at hR
  obtain ⟨b, vq, vi, hq, hi, n, sz, f, hx⟩ := h
  have HN := Aside0.mk (And.intro n0 n1)
  have HI := Aside0.mk (And.intro hI hM)
  have HOK := Aside0.mk hok
  have HBW := Aside0.mk (show B ≤ w.heap.size by have := hx.ge p hx.sp; have := blk_lt hx.blk; omega)
  have H := Aside0.mk hx
  have HR := Aside0.mk hr
  have HB := Aside0.mk hb
  have HD := Aside0.mk hd
  have HRR := Aside0.mk hR
  clear hx hr hb hd hI hM n0 n1 hok hR
  go_enter Try.func22, Try.ntmps22
  go_wp2_with fail
  refine (decode_calls A c l _ HR.out hc hl HB.out _ _ HD.out).mono ?_
  rintro e w1 ⟨V, rfl, ho, hb1⟩
  obtain ⟨A1, c1, rfl⟩ := Kd.R_slice ho
  have HB1 := Aside0.mk hb1
  have HBD := Aside0.mk (show Bd w1 B (encH ⟨A1, m.length, c1⟩) m from Bd.of ho HBW.out)
  have hbl1 := blk_below H.out.blk hb1
  have d3 : (w1.alloc (.cells #[.bool d, .int .i64 s, .int .i64 (a : Int), .slice A1 m.length c1] 53)).cell? ⟨p, 3, none⟩ = some (.int .i64 (σ.sent : Int)) := blk_cell (blk_below hbl1 (below_alloc (Below.refl _ w1) _)) 3
  have x2 : (w1.alloc (.cells #[.bool d, .int .i64 s, .int .i64 (a : Int), .slice A1 m.length c1] 53)).cell? ⟨w1.heap.size, 2, none⟩ = some (.int .i64 (a : Int)) := blk_cell (blk_new w1 _) 2
  clear ho hb1 hbl1
  have hA2 : decide (σ.sent < a) = false := decide_eq_false (by omega)
  have HA := Aside0.mk hA
  clear hA n2 n3
  go_wp2_with fail
  go_region
  clear d3 x2
  go_wp2_with fail
  have HMID := Aside0.mk (mid0 H.out HBW.out HB1.out HBD.out d s (a : Int))
  have HG := Aside0.mk HB1.out.size
  clear HBD HB1
  generalize hu : (w1.alloc (.cells #[.bool d, .int .i64 s, .int .i64 (a : Int), .slice A1 m.length c1] 53)).drew = u at HMID ⊢
  clear hu
  obtain ⟨g, hg⟩ : ∃ g, g = w1.heap.size := ⟨_, rfl⟩
  rw [← hg] at HMID HG ⊢
  clear hg w1
  go_cut [7] from 28 to 34 (fun v7 wx => v7 = .int .i64 ((a : Int) - (σ.sure : Int)) ∧ Aside0 (Mid w wx B N S p g σ d s (a : Int) A1 c1 m))
  case first =>
    clear H
    obtain ⟨⟨S1, ⟨b, vq, vi, hq, hi, n, sz, f, hx⟩, hfr⟩, hblk, hbd, hge⟩ := HMID.out
    have f2 : u.cell? ⟨g, 2, none⟩ = some (.int .i64 a) := blk_cell hblk 2
    have p2 : u.cell? ⟨p, 2, none⟩ = some (.int .i64 (σ.sure : Int)) := blk_cell hx.blk 2
    have hwr : wrap64 ((a : Int) - (σ.sure : Int)) = (a : Int) - (σ.sure : Int) := by
      have := HI.out.1.tk; have := HI.out.1.s0; have := HI.out.1.s1; have := HI.out.2; have := HA.out
      unfold wrap64; omega
    clear hx hfr hblk hbd
    go_region
    all_goals go_wp2_with fail
    all_goals go_meet
    case rel => exact ⟨congrArg _ hwr, ⟨HMID.out.below (below_drew (Below.refl _ _))⟩⟩
  case rest =>
    obtain ⟨rfl, HM1⟩ := hcut
    clear HMID
    go_upto_if 36 with fail
    go_cut [] from 35 to 50 (fun wx => Aside0 (Mid w wx B N S p g { σ with sure := max σ.sure a } d s (a : Int) A1 c1 m))
    case first =>
      have hI2 := HI.out.1
      have hq3 := hI2.s3
      have hq1 := hI2.s1
      have htk := hI2.tk
      have hM2 := HI.out.2
      have hA := HA.out
      clear H
      obtain ⟨⟨S1, ⟨b, vq, vi, hq, hi, n, sz, f, hx⟩, hfr⟩, hblk, hbd, hge⟩ := HM1.out
      have hpg : p ≠ g := ne_frame hx hblk p hx.sp (.inl rfl)
      have f2 : wc.cell? ⟨g, 2, none⟩ = some (.int .i64 a) := blk_cell hblk 2
      have p2 : wc.cell? ⟨p, 2, none⟩ = some (.int .i64 (σ.sure : Int)) := blk_cell hx.blk 2
      by_cases has : (σ.sure : Int) < (a : Int)
      · have hqn : hq.length = σ.took.length - σ.sure := by rw [hx.qb.1, List.length_drop]
        obtain ⟨A0, c0, rfl, hcap0⟩ := Kd.Q_slice hx.q
        have hdr := Kd.Q_drop (k := a - σ.sure) hx.q (by omega)
        rw [show (a - σ.sure) * kH.sz = a - σ.sure from Nat.mul_one _] at hdr
        have p1 : wc.cell? ⟨p, 1, none⟩ = some (.slice A0 hq.length c0) := blk_cell hx.blk 1
        have z1 : wc.frozen? ⟨p, 1, none⟩ = false := blk_frozen hx.blk 1
        have z2 : wc.frozen? ⟨p, 2, none⟩ = false := blk_frozen hx.blk 2
        have HX := Aside0.mk hx
        have HDR := Aside0.mk hdr
        have HFR := Aside0.mk hfr
        have HBK := Aside0.mk hblk
        have HBD := Aside0.mk hbd
        clear hx hdr hfr hblk hbd
        have hgt : (0 : Int) < (a : Int) - (σ.sure : Int) := by omega
        have hle : (a : Int) - (σ.sure : Int) ≤ (c0 : Int) := by omega
        have hle2 : (a : Int) - (σ.sure : Int) ≤ (hq.length : Int) := by omega
        have hsa : σ.sure ≤ a := by omega
        have HM9 := Aside0.mk (show max σ.sure a = a from Nat.max_eq_right hsa)
        clear hqn
        go_wp2_with fail
        go_region
        all_goals go_wp2_with fail
        all_goals go_meet
        all_goals (case rel =>
          rw [HM9.out]
          refine ⟨mid_ack HX.out HFR.out HBK.out HBD.out hge hsa _ ?_⟩
          have h9 := HDR.out
          first | (have e : c0 = a - σ.sure := (by omega); rw [if_pos e, show c0 - (a - σ.sure) = 0 by omega] at h9; exact h9) | (rw [if_neg (by omega)] at h9; exact h9))
      · have hgt : ¬ (0 : Int) < (a : Int) - (σ.sure : Int) := by omega
        have HM9 := Aside0.mk (show max σ.sure a = σ.sure from Nat.max_eq_left (by omega))
        clear hx hfr hblk hbd f2 p2
        go_wp2_with fail
        all_goals go_meet
        case rel =>
          rw [HM9.out]
          exact HM1
    case rest =>
      have HM2 := hcut
      clear hcut HM1 HR HB HD H
      obtain ⟨σ1, hσ1⟩ : ∃ σ1, σ1 = { σ with sure := max σ.sure a } := ⟨_, rfl⟩
      have hI1 : Lp.Inv M σ1 := by
        rw [hσ1]
        have hI := HI.out.1
        have := HA.out
        have e0 := hI.s0
        have e1 := hI.s2
        have e2 := hI.s3
        have e3 : σ.sure ≤ max σ.sure a := Nat.le_max_left _ _
        refine ⟨hI.w0, hI.w1, Nat.max_le.2 ⟨e0, by show a ≤ σ.sent; omega⟩, hI.s1, ?_, ?_, hI.tk, hI.tl, hI.al, hI.ht, hI.ha, hI.hh⟩
        · show σ.sent ≤ max _ _ + σ.window; omega
        · show σ.took.length ≤ max _ _ + 64; omega
      have hR1 : R = if d = false then (0, σ1) else (0, { σ1 with owes := true, hold := (pull 17 (takeH σ1 s m) σ1.all).1, all := (pull 17 (takeH σ1 s m) σ1.all).2 }) := by rw [HRR.out, hσ1]; rfl
      have HR1 := Aside0.mk hR1
      have HI1 := Aside0.mk hI1
      rw [← hσ1] at HM2
      have HM9 := Aside0.mk HI.out.2
      clear hσ1 HRR HA hR1 hI1 HI hA2
      have d0 : wc.cell? ⟨g, 0, none⟩ = some (.bool d) := blk_cell HM2.out.fr 0
      cases d with
      | false =>
        go_wp2_with fail
        go_ret
        rw [HR1.out]
        obtain ⟨S1, h1, h2⟩ := HM2.out.lp
        exact ⟨rfl, S1, LP.monoN h1 (Nat.le_succ _), h2⟩
      | true =>
        have p7 : wc.cell? ⟨p, 7, none⟩ = some (.bool σ1.owes) := by obtain ⟨S1, ⟨b, vq, vi, hq, hi, n, sz, f, hx⟩, _⟩ := HM2.out.lp; exact blk_cell hx.blk 7
        have z7 : wc.frozen? ⟨p, 7, none⟩ = false := by obtain ⟨S1, ⟨b, vq, vi, hq, hi, n, sz, f, hx⟩, _⟩ := HM2.out.lp; exact blk_frozen hx.blk 7
        go_wp2_with fail
        obtain ⟨σ2, hσ2⟩ : ∃ σ2, σ2 = { σ1 with owes := true } := ⟨_, rfl⟩
        have HM3 := Aside0.mk (mid_owes HM2.out)
        rw [← hσ2] at HM3
        have hI2 : Lp.Inv M σ2 := by rw [hσ2]; have hI := HI1.out; exact ⟨hI.w0, hI.w1, hI.s0, hI.s1, hI.s2, hI.s3, hI.tk, hI.tl, hI.al, hI.ht, hI.ha, hI.hh⟩
        have hR2 : R = (0, { σ2 with hold := (pull 17 (takeH σ2 s m) σ2.all).1, all := (pull 17 (takeH σ2 s m) σ2.all).2 }) := by rw [HR1.out, if_neg (by simp), hσ2]; rfl
        have HR2 := Aside0.mk hR2
        have HI2 := Aside0.mk hI2
        clear HM2 d0 p7 z7 hσ2 HR1 HI1 hR2 hI2
        generalize hu2 : wc.setCell ⟨p, 7, none⟩ (.bool true) = u2 at HM3 ⊢
        clear hu2
        obtain ⟨⟨S1, ⟨b, vq, vi, hq, hi, n, sz, f, hx⟩, hfr⟩, hblk, hbd, hge⟩ := HM3.out
        have HX := Aside0.mk hx
        have HFR := Aside0.mk hfr
        have HBK := Aside0.mk hblk
        have HBD := Aside0.mk hbd
        have hs64 : I64 s := I64.mk (by have := HN.out.1; omega) (by have := HN.out.2; omega)
        have hlk := run_look_ok law Try.underlying3 Try.underlying80 (zero30 u2.drew) (hx.m.below (below_drew (Below.refl _ u2))) s hs64
        have p6 : u2.cell? ⟨p, 6, none⟩ = some (.map (some b)) := blk_cell hx.blk 6
        have g1 : u2.cell? ⟨g, 1, none⟩ = some (.int .i64 s) := blk_cell hblk 1
        clear hx hfr hblk hbd
        obtain ⟨vv, hvv⟩ : ∃ vv, vv = (f s).getD (.slice none 0 0) := ⟨_, rfl⟩
        obtain ⟨iss, hiss⟩ : ∃ iss, iss = (f s).isSome := ⟨_, rfl⟩
        rw [← hvv, ← hiss] at hlk
        have HIS := Aside0.mk hiss
        clear hvv hiss
        go_region
        all_goals go_wp2_with fail
        have HX3 := Aside0.mk (LPx.below HX.out (below_drew (Below.refl _ u2)))
        have HM4 := Aside0.mk (HM3.out.below (below_drew (Below.refl _ u2)))
        have HBU := Aside0.mk (show B ≤ u2.heap.size by have := HX.out.ge p HX.out.sp; have := blk_lt HX.out.blk; omega)
        have HFR3 := Aside0.mk (FrL.below HFR.out (below_drew (Below.refl _ u2)) HBU.out)
        have HBK3 := Aside0.mk (blk_below HBK.out (below_drew (Below.refl _ u2)))
        have HBD3 := Aside0.mk (HBD.out.keep (Keep5.below (below_drew (Below.refl _ u2))))
        clear hlk p6 g1 HM3 HX HFR HBK HBD HBU
        generalize hu3 : u2.drew = u3 at HX3 HM4 HFR3 HBK3 HBD3 ⊢
        clear hu3 u2 hs64
        obtain ⟨tk, htk⟩ : ∃ tk : Bool, tk = decide ((σ2.hold s).isSome = false ∧ (σ2.all.length : Int) ≤ s ∧ s < (σ2.all.length : Int) + 16) := ⟨_, rfl⟩
        have HTK := Aside0.mk htk
        clear htk
        go_cut [87] from 67 to 86 (fun v87 wx => v87 = .bool tk ∧ Aside0 (Below u3.heap.size u3 wx))
        case first =>
          have hs64 : I64 s := I64.mk (by have := HN.out.1; omega) (by have := HN.out.2; omega)
          have hmf := HX3.out.mf s hs64
          have hal := HI2.out.al
          have hblk := HM4.out.fr
          have p5 : u3.cell? ⟨p, 5, none⟩ = some (.int .i64 (σ2.all.length : Int)) := blk_cell HX3.out.blk 5
          have g1 : u3.cell? ⟨g, 1, none⟩ = some (.int .i64 s) := blk_cell hblk 1
          have hw16 : wrap64 ((σ2.all.length : Int) + 16) = (σ2.all.length : Int) + 16 := by have := HM9.out; unfold wrap64; omega
          have htk := HTK.out
          clear hblk
          cases hh : σ2.hold s with
          | some l' =>
            rw [hh] at hmf htk
            obtain ⟨v', hv', _⟩ := hmf
            have hi0 : iss = true := by rw [HIS.out, hv']; rfl
            have ht0 : tk = false := by rw [htk]; exact decide_eq_false (fun e => by cases e.1)
            subst hi0 ht0
            clear hh hal htk hs64 HTK HIS
            go_quiet (fail)
            go_wp2_with fail
            all_goals go_meet
            case rel => exact ⟨rfl, ⟨pw_below_drewN (Below.refl _ _) _⟩⟩
          | none =>
            rw [hh] at hmf htk
            have hi0 : iss = false := by rw [HIS.out, hmf]; rfl
            subst hi0
            by_cases hgs : (σ2.all.length : Int) ≤ s
            · have hgd1 : decide ((σ2.all.length : Int) ≤ s) = true := decide_eq_true hgs
              by_cases hlt : s < (σ2.all.length : Int) + 16
              · have hgd2 : decide (s < (σ2.all.length : Int) + 16) = true := decide_eq_true hlt
                have ht0 : tk = true := by rw [htk]; exact decide_eq_true ⟨rfl, hgs, hlt⟩
                subst ht0
                clear hgs hlt hh hmf hal htk HTK HIS hs64
                go_quiet (fail)
                go_wp2_with fail
                all_goals go_meet
                case rel => exact ⟨rfl, ⟨pw_below_drewN (Below.refl _ _) _⟩⟩
              · have hgd2 : decide (s < (σ2.all.length : Int) + 16) = false := decide_eq_false hlt
                have ht0 : tk = false := by rw [htk]; exact decide_eq_false (fun e => hlt e.2.2)
                subst ht0
                clear hgs hlt hh hmf hal htk HTK HIS hs64
                go_quiet (fail)
                go_wp2_with fail
                all_goals go_meet
                case rel => exact ⟨rfl, ⟨pw_below_drewN (Below.refl _ _) _⟩⟩
            · have hgd1 : decide ((σ2.all.length : Int) ≤ s) = false := decide_eq_false hgs
              have ht0 : tk = false := by rw [htk]; exact decide_eq_false (fun e => hgs e.2.1)
              subst ht0
              clear hgs hh hmf hal htk HTK HIS hs64
              go_quiet (fail)
              go_wp2_with fail
              all_goals go_meet
              case rel => exact ⟨rfl, ⟨pw_below_drewN (Below.refl _ _) _⟩⟩
        case rest =>
          obtain ⟨rfl, HB4⟩ := hcut
          have HX4 := Aside0.mk (LPx.below HX3.out HB4.out)
          have HBU := Aside0.mk (show B ≤ u3.heap.size by have := HX3.out.ge p HX3.out.sp; have := blk_lt HX3.out.blk; omega)
          have HFR4 := Aside0.mk (FrL.below HFR3.out HB4.out HBU.out)
          have HBK4 := Aside0.mk (blk_below HBK3.out HB4.out)
          have HBD4 := Aside0.mk (HBD3.out.keep (Keep5.below HB4.out))
          clear HB4 HX3 HFR3 HBK3 HBD3 HM4 HBU HIS
          go_upto_if 87 with fail
          go_cut [] from 88 to 95 (fun wx => Aside0 (Mid w wx B (N + 1) S p g { σ2 with hold := takeH σ2 s m } true s (a : Int) A1 c1 m))
          case first =>
            cases tk with
            | false =>
              have hc : takeH σ2 s m = σ2.hold := if_neg (of_decide_eq_false HTK.out.symm)
              go_wp2_with fail
              all_goals go_meet
              case rel =>
                rw [hc]
                exact ⟨⟨⟨_, LP.monoN ⟨b, vq, vi, hq, hi, n, sz, f, HX4.out⟩ (Nat.le_succ _), HFR4.out⟩, HBK4.out, HBD4.out, hge⟩⟩
            | true =>
              have hc : takeH σ2 s m = setH σ2.hold s (some m) := if_pos (of_decide_eq_true HTK.out.symm)
              have HC := Aside0.mk hc
              have hs64 : I64 s := I64.mk (by have := HN.out.1; omega) (by have := HN.out.2; omega)
              have hb4 : Below wc.heap.size wc wc.drew := below_drew (Below.refl _ wc)
              have hx5 := LPx.below HX4.out hb4
              have HX5 := Aside0.mk hx5
              obtain ⟨w6, hrun6, hm6, hg6⟩ := Mq.run_store law Try.underlying3 Try.underlying80 hx5.m (Nat.lt_of_le_of_lt hx5.mn hNm) s (.slice A1 m.length c1) hs64
              have HM6 := Aside0.mk hm6
              have HG6 := Aside0.mk hg6
              have hblk := HBK4.out
              have p6 : wc.cell? ⟨p, 6, none⟩ = some (.map (some b)) := blk_cell HX4.out.blk 6
              have g1 : wc.cell? ⟨g, 1, none⟩ = some (.int .i64 s) := blk_cell hblk 1
              have g3 : wc.cell? ⟨g, 3, none⟩ = some (.slice A1 m.length c1) := blk_cell hblk 3
              clear hblk hx5 hm6 hg6 hc
              go_wp2_with fail
              go_region
              all_goals go_wp2_with fail
              all_goals go_meet
              case rel =>
                rw [HC.out]
                exact ⟨mid_store HX5.out (FrL.below HFR4.out hb4 (by have := HX4.out.ge p HX4.out.sp; have := blk_lt HX4.out.blk; omega)) (blk_below HBK4.out hb4) (HBD4.out.keep (Keep5.below hb4)) hge HM6.out HG6.out⟩
          case rest =>
            obtain ⟨σ3, hσ3⟩ : ∃ σ3, σ3 = { σ2 with hold := takeH σ2 s m } := ⟨_, rfl⟩
            have hhw : HW σ3.hold σ3.all ((σ3.all.length : Int) + 16) := by rw [hσ3]; exact takeH_ok HI2.out HOK.out
            have hal := HI2.out.al
            have htl := HI2.out.tl
            have e1 : σ3.all = σ2.all := by rw [hσ3]
            have e2 : σ3.told = σ2.told := by rw [hσ3]
            have hR3 : R = (0, { σ3 with hold := (pull 17 σ3.hold σ3.all).1, all := (pull 17 σ3.hold σ3.all).2 }) := by rw [HR2.out, hσ3]
            rw [← e1] at hal htl
            rw [← e2] at htl
            rw [← hσ3] at hcut
            have HHW := Aside0.mk hhw
            have HR3 := Aside0.mk hR3
            have HAL := Aside0.mk (show σ3.all.length + 16 ≤ 17000016 by have := HM9.out; omega)
            have HTL := Aside0.mk htl
            clear hσ3 hhw hal htl e1 e2 hR3 HR2 HI2 HTK HX4 HFR4 HBK4 HBD4 HN HOK
            obtain ⟨⟨S3, ⟨b3, vq3, vi3, hq3, hi3, n3, sz3, f3, hx⟩, hfr⟩, _, _, _⟩ := hcut.out
            have hb64 : I64 (σ3.all.length : Int) := I64.mk (by omega) (by have := HAL.out; omega)
            have p6 : wc.cell? ⟨p, 6, none⟩ = some (.map (some b3)) := blk_cell hx.blk 6
            have p5 : wc.cell? ⟨p, 5, none⟩ = some (.int .i64 (σ3.all.length : Int)) := blk_cell hx.blk 5
            have hlk := run_look_ok law Try.underlying3 Try.underlying80 (zero30 wc.drew) (hx.m.below (below_drew (Below.refl _ wc))) (σ3.all.length : Int) hb64
            have HL0 := Aside0.mk (lp_start hx hfr hb64 HHW.out HTL.out)
            obtain ⟨v10, hv10⟩ : ∃ v10, v10 = (f3 (σ3.all.length : Int)).getD (.slice none 0 0) := ⟨_, rfl⟩
            obtain ⟨v11, hv11⟩ : ∃ v11, v11 = (f3 (σ3.all.length : Int)).isSome := ⟨_, rfl⟩
            rw [← hv10, ← hv11] at hlk HL0
            clear hv10 hv11 hx hfr hcut
            go_wp2_with fail
            go_region
            clear p5 p6 hlk
            go_wp2_with fail
            go_loopw [10, 11] (fun u10 u11 wr => ∃ (v : Value) (is : Bool) (k : Nat) (h : Int → Option (List Int)) (al : List (List Int)), u10 = v ∧ u11 = .bool is ∧ Aside0 (LpR w wr B (N + 1) S p σ3 v is k h al)) (fun _ _ wr => (σ3.all.length + 16) - (intOf ((wr.cell? ⟨p, 5, none⟩).getD undef)).toNat)
            case atStart => exact ⟨_, _, _, _, _, rfl, rfl, HL0⟩
            case round =>
              obtain ⟨v, is, k, h, al, rfl, rfl, HL⟩ := hrel
              cases he : h (al.length : Int) with
              | none =>
                have his : is = false := by rw [HL.out.is', he]; rfl
                subst his
                have HE := Aside0.mk he
                clear he
                go_wp2_with fail
                go_ret
                obtain ⟨S4, h1, h2⟩ := HL.out.lp
                rw [HR3.out]
                refine ⟨rfl, S4, ?_, h2⟩
                rw [← HL.out.pl, pull_none k HE.out]
                exact h1
              | some l' =>
                have his : is = true := by rw [HL.out.is', he]; rfl
                subst his
                obtain ⟨A4, c4, rfl, hbd4⟩ := HL.out.v' l' he
                obtain ⟨S4, ⟨b4, vq4, vi4, hq4, hi4, n4, sz4, f4, hx⟩, hfr⟩ := HL.out.lp
                have hle : al.length < σ3.all.length + 16 := by have := (HL.out.hw.1 _ _ he).2.1; omega
                have hb64 : I64 (al.length : Int) := I64.mk (by omega) (by have := HAL.out; omega)
                have hb65 : I64 (((al.length + 1 : Nat) : Nat) : Int) := I64.mk (by omega) (by have := HAL.out; omega)
                have hxd := LPx.below hx (below_drew (Below.refl _ wr))
                obtain ⟨w6, hrun, hm6, hg6⟩ := run_delete law Try.underlying3 Try.underlying80 hxd.m (al.length : Int) hb64
                obtain ⟨hx6, hf6⟩ := map_end hxd (al.length : Int) none none hm6 hg6 hxd.mn rfl
                have p6 : wr.cell? ⟨p, 6, none⟩ = some (.map (some b4)) := blk_cell hx.blk 6
                have p5 : wr.cell? ⟨p, 5, none⟩ = some (.int .i64 (al.length : Int)) := blk_cell hx.blk 5
                have HBW4 := Aside0.mk (show B ≤ wr.heap.size by have := hx.ge p hx.sp; have := blk_lt hx.blk; omega)
                have HF6 := Aside0.mk (FrL.trans (FrL.below hfr (below_drew (Below.refl _ wr)) HBW4.out) hf6)
                have HX6 := Aside0.mk hx6
                have HBD6 := Aside0.mk ((hbd4.keep (Keep5.below (below_drew (Below.refl _ wr)))).keep hf6.k5)
                have HE := Aside0.mk he
                have HP5 := Aside0.mk p5
                have HB65 := Aside0.mk hb65
                have HLE := Aside0.mk hle
                clear he hbd4 hx hfr hxd hm6 hg6 hx6 hf6 hb64 hb65 hle
                go_wp2_with fail
                go_region
                clear p5 p6 hrun
                have p4 : w6.cell? ⟨p, 4, none⟩ = some vi4 := blk_cell HX6.out.blk 4
                have HTL4 := Aside0.mk HL.out.tl
                have HLN4 := Aside0.mk (show (hi4.length + 1) * 24 ≤ 140737488355328 by
                  have e1 := HX6.out.ib.1
                  rw [List.length_drop] at e1
                  have e2 : ({ σ3 with hold := setH h (al.length : Int) none, all := al } : Lk).all.length = al.length := rfl
                  have e3 := HLE.out
                  have e4 := HAL.out
                  change hi4.length = al.length - _ at e1
                  omega)
                have hw1 : wrap64 ((al.length : Int) + 1) = (al.length : Int) + 1 := by have := HLE.out; have := HAL.out; unfold wrap64; omega
                go_wp2_with ((with_reducible refine gate_builtin (b := .append) (xs := #[.tmp 133, .tmp 135]) rfl ?_); at_builtin; refine Kd.Q_append kH (w0 := w6) B rfl (.tmp 133) (.tmp 135) 44 30 (.slice none 0 0) 24 rfl Try.underlying44 info30 rfl (by decide) (by omega) vi4 hi4 ⟨A4, l'.length, c4⟩ [encH ⟨A4, l'.length, c4⟩] (fun k => some k = vi4.ownBlock ∨ w6.heap.size ≤ k) (fun _ => False) rfl rfl rfl (fun _ hk => hk.elim) (fun k hk => .inr hk) (Kd.Q_mono HX6.out.i (fun k hk => .inl hk)) (Below.refl _ _) ?aZ HLN4.out ?_; (case aZ => exact (by have := HX6.out.ge p HX6.out.sp; have := blk_lt HX6.out.blk; omega)); intro v9 w9 hq9 _ hg9 hat9; obtain ⟨A9, c9, rfl, _⟩ := Kd.Q_slice hq9; have HGE := Aside0.mk (got_end HX6.out (x := ⟨A4, l'.length, c4⟩) (l := l') HBD6.out HTL4.out hq9 hg9 hat9); have hblk9 := (hg9.block p (blk_lt HX6.out.blk) (fun e => LPx.ni HX6.out e.symm)).trans HX6.out.blk; have d4 : w9.cell? ⟨p, 4, none⟩ = some vi4 := blk_cell hblk9 4; have z4 : w9.frozen? ⟨p, 4, none⟩ = false := blk_frozen hblk9 4; have p5 : w9.cell? ⟨p, 5, none⟩ = some (.int .i64 (al.length : Int)) := blk_cell hblk9 5; have z5 : w9.frozen? ⟨p, 5, none⟩ = false := blk_frozen hblk9 5; clear hq9 hg9 hat9 hblk9 p4)
                clear d4 z4 p5 z5
                have HGF := Aside0.mk (show _ ∧ _ from HGE.out)
                rw [show (hi4 ++ [(⟨A4, l'.length, c4⟩ : Hd)]).length = hi4.length + 1 by simp] at HGF
                rw [show ((({ σ3 with hold := setH h (al.length : Int) none, all := al } : Lk).all.length + 1 : Nat) : Int) = (al.length : Int) + 1 from rfl] at HGF
                clear HGE
                generalize hu5 : (w9.setCell ⟨p, 4, none⟩ (.slice A9 (hi4.length + 1) c9)).setCell ⟨p, 5, none⟩ (.int .i64 ((al.length : Int) + 1)) = u5 at HGF ⊢
                clear hu5
                obtain ⟨hx7, hf7⟩ := HGF.out
                have HL7 := Aside0.mk (lpr_next HL.out HE.out hx7 (FrL.trans HF6.out hf7) HB65.out)
                have hb65 := HB65.out
                have hlk := run_look_ok law Try.underlying3 Try.underlying80 (zero30 u5.drew) (hx7.m.below (below_drew (Below.refl _ u5))) ((al.length + 1 : Nat) : Int) hb65
                rw [show (((al.length + 1 : Nat) : Nat) : Int) = (al.length : Int) + 1 from rfl] at hlk HL7
                have p6 : u5.cell? ⟨p, 6, none⟩ = some (.map (some b4)) := blk_cell hx7.blk 6
                have p5 : u5.cell? ⟨p, 5, none⟩ = some (.int .i64 ((al.length : Int) + 1)) := by
                  have e : u5.cell? ⟨p, 5, none⟩ = some (.int .i64 ((al ++ [l']).length : Int)) := blk_cell hx7.blk 5
                  rw [e]; simp
                obtain ⟨f5, hf5⟩ : ∃ f5, f5 = Mp.upd f4 (al.length : Int) none := ⟨_, rfl⟩
                rw [← hf5] at hlk HL7
                obtain ⟨v5, hv5⟩ : ∃ v, v = (f5 ((al.length : Int) + 1)).getD (.slice none 0 0) := ⟨_, rfl⟩
                obtain ⟨b5, hb5⟩ : ∃ v, v = (f5 ((al.length : Int) + 1)).isSome := ⟨_, rfl⟩
                rw [← hv5, ← hb5] at hlk HL7
                have HP7 := Aside0.mk p5
                clear hf5 hv5 hb5 hx7 hf7 hb65
                go_region
                clear p5 p6 hlk
                go_wp2_with fail
                go_roundw
                case rel =>
                  obtain ⟨k', hk'⟩ := HL7.out
                  exact ⟨_, _, _, _, _, rfl, rfl, ⟨hk'⟩⟩
                case measure =>
                  have h5 := HP5.out
                  have h7 : u5.drew.cell? ⟨p, 5, none⟩ = some (.int .i64 ((al.length : Int) + 1)) := HP7.out
                  have hl := HLE.out
                  rw [h5, h7]
                  simp only [Option.getD_some, intOf]
                  omega
/-- In, whatever comes. -/
theorem in_calls (h : LP w B N S p σ) {M : Nat} (hI : Inv M σ) (hM : M ≤ 1000000) (hNm : N < maxLen) (A : Option Addr) (c : Nat) (l : List Int) (hr : Kd.C (Kd.int .u8) w A l.length l) (hc : l.length ≤ c) (hl : l.length ≤ 140737488351232) (hb : ∀ x ∈ l, 0 ≤ x ∧ x < 256) :
    Calls Try.prog 22 #[.pointer (some ⟨p, 0, none⟩), .slice A l.length c] w fun e w' => e = .returned (.int .i64 (inL σ l).1) ∧ ∃ S', LP w' B (N + 1) S' p (inL σ l).2 ∧ FrL B S S' w w' := by
  by_cases hE : (decA l).2 ≠ 0 ∨ (decA l).1.2.2.1 > (σ.sent : Int)
  · refine (in_no h A c l hr hc hl hb hE).mono ?_
    rintro e w' ⟨rfl, hbel⟩
    have e1 : inL σ l = (14, σ) := by unfold inL; rw [if_pos hE]
    rw [e1]
    have hB : B ≤ w.heap.size := by obtain ⟨b, vq, vi, hq, hi, n, sz, f, hx⟩ := h; have := hx.ge p hx.sp; have := blk_lt hx.blk; omega
    exact ⟨rfl, S, LP.monoN (LP.below h hbel) (Nat.le_succ _), FrL.below (FrL.refl B S w) hbel hB⟩
  · have h1 : (decA l).2 = 0 := by
      rcases Classical.em ((decA l).2 = 0) with h | h
      · exact h
      · exact absurd (.inl h) hE
    exact in_yes h hI hM hNm A c l hr hc hl hb h1 (by omega)
end Go.Proofs.Ytekakngojhnleaa.Le
/- Links: how an end of the document lies in memory; how it is turned. -/
namespace Go.Proofs.Ytekakngojhnleaa.Xa
open Go.RowKit Go.Maps Go.Proofs.Ytekakngojhnleaa.Lp Go.Proofs.Ytekakngojhnleaa.Lm Go.Proofs.Ytekakngojhnleaa.La Go.Proofs.Ytekakngojhnleaa.Lb Go.Proofs.Ytekakngojhnleaa.Lc Go.Proofs.Ytekakngojhnleaa.Ld Go.Proofs.Ytekakngojhnleaa.Le Go.Proofs.YtekakngojhnleaaW.PrintWords Go.Proofs.YtekakngojhnleaaW.PrintLast Go.Proofs.YtekakngojhnleaaW.PrintMore
set_option linter.unusedVariables false
set_option linter.unusedSimpArgs false
variable {w w' : World} {B N p : Nat} {S : Nat → Prop} {σ : Lk}

/-- A held message: its number, its header. -/
abbrev Hm := Int × Hd
def kM : Kd Hm := Kd.pair (Kd.int .i64) kH
def cellsD (σ : Lk) (vt va vh : Value) : Array Value :=
  #[.int .i64 (σ.window : Int), vt, .int .i64 (σ.sure : Int), .int .i64 (σ.sent : Int), va, .int .i64 (σ.told : Int), vh, .bool σ.owes, .bool σ.tick]
/-- A row of messages. -/
def RT (w : World) (B : Nat) (v : Value) (ls : List (List Int)) : Prop := ∃ hs, kH.R 30 w B (fun k => some k = v.ownBlock) v hs ∧ Bods w B hs ls
structure HeldD (w : World) (B : Nat) (hs : List Hm) (hold : Int → Option (List Int)) : Prop where
  nd : (hs.map (·.1)).Nodup
  of : ∀ x, match hold x with | none => ∀ h, (x, h) ∉ hs | some l => ∃ h, (x, h) ∈ hs ∧ Bd w B (encH h) l
/-- The row of those that came ahead of their turn. -/
def RM (w : World) (B N : Nat) (v : Value) (hold : Int → Option (List Int)) : Prop := ∃ hs, kM.R 122 w B (fun k => some k = v.ownBlock) v hs ∧ HeldD w B hs hold ∧ hs.length ≤ N
theorem HeldD.keep {hs : List Hm} {hold : Int → Option (List Int)} (h : HeldD w B hs hold) (hk : Keep5 w w') : HeldD w' B hs hold := by
  refine ⟨h.nd, fun x => ?_⟩
  have := h.of x
  cases hy : hold x with
  | none => rw [hy] at this; exact this
  | some l => rw [hy] at this; obtain ⟨a, ha, hb⟩ := this; exact ⟨a, ha, hb.keep hk⟩
theorem RT.step {v : Value} {ls : List (List Int)} (h : RT w B v ls) (hm : ∀ k, v.ownBlock = some k → w'.heap[k]? = w.heap[k]?) (k5 : Keep5 w w') : RT w' B v ls := by
  obtain ⟨hs, h1, h2⟩ := h
  exact ⟨hs, Kd.R_step h1 (fun k hk _ => hm k hk.symm), h2.keep k5⟩
theorem RM.step {v : Value} {hold : Int → Option (List Int)} (h : RM w B N v hold) (hm : ∀ k, v.ownBlock = some k → w'.heap[k]? = w.heap[k]?) (k5 : Keep5 w w') : RM w' B N v hold := by
  obtain ⟨hs, h1, h2, h3⟩ := h
  exact ⟨hs, Kd.R_step h1 (fun k hk _ => hm k hk.symm), h2.keep k5, h3⟩
theorem RM.mono {v : Value} {hold : Int → Option (List Int)} (h : RM w B N v hold) {M : Nat} (hm : N ≤ M) : RM w B M v hold := by
  obtain ⟨hs, h1, h2, h3⟩ := h
  exact ⟨hs, h1, h2, Nat.le_trans h3 hm⟩
theorem RT.typed {v : Value} {ls : List (List Int)} (h : RT w B v ls) : ∀ k, v.ownBlock = some k → ∃ cs, w.heap[k]? = some (.cells cs 30 (0, 0)) := by
  obtain ⟨hs, h1, _⟩ := h; exact Kd.R_typed h1
theorem RM.typed {v : Value} {hold : Int → Option (List Int)} (h : RM w B N v hold) : ∀ k, v.ownBlock = some k → ∃ cs, w.heap[k]? = some (.cells cs 122 (0, 0)) := by
  obtain ⟨hs, h1, _⟩ := h; exact Kd.R_typed h1
theorem RT.base {v : Value} {ls : List (List Int)} (h : RT w B v ls) : ∀ k, v.ownBlock = some k → B ≤ k := by
  obtain ⟨hs, h1, _⟩ := h; exact Kd.R_base h1
/-- An end of the document; S: the blocks that it may turn. -/
structure DPx (w : World) (B N : Nat) (S : Nat → Prop) (p : Nat) (σ : Lk) (vt va vh : Value) : Prop where
  blk : w.heap[p]? = some (.cells (cellsD σ vt va vh) 67 (0, 0))
  t : RT w B vt σ.took
  a : RT w B va σ.all
  h : RM w B N vh σ.hold
  sp : S p
  st : ∀ k, vt.ownBlock = some k → S k
  sa : ∀ k, va.ownBlock = some k → S k
  sh : ∀ k, vh.ownBlock = some k → S k
  ta : ∀ k, vt.ownBlock = some k → va.ownBlock ≠ some k
  lt : ∀ k, S k → k < w.heap.size
  ge : ∀ k, S k → B ≤ k
def DP (w : World) (B N : Nat) (S : Nat → Prop) (p : Nat) (σ : Lk) : Prop := ∃ vt va vh, DPx w B N S p σ vt va vh
section
variable {vt va vh : Value}
theorem DPx.np (h : DPx w B N S p σ vt va vh) : vt.ownBlock ≠ some p ∧ va.ownBlock ≠ some p ∧ vh.ownBlock ≠ some p := by
  have hb := h.blk
  refine ⟨fun e => ?_, fun e => ?_, fun e => ?_⟩
  · obtain ⟨cs, hc⟩ := h.t.typed p e; rw [hc] at hb; cases hb
  · obtain ⟨cs, hc⟩ := h.a.typed p e; rw [hc] at hb; cases hb
  · obtain ⟨cs, hc⟩ := h.h.typed p e; rw [hc] at hb; cases hb
theorem DPx.th (h : DPx w B N S p σ vt va vh) : ∀ k, vt.ownBlock = some k → vh.ownBlock ≠ some k := fun k e e2 => by
  obtain ⟨cs, hc⟩ := h.t.typed k e; obtain ⟨cs', hc'⟩ := h.h.typed k e2; rw [hc] at hc'; cases hc'
theorem DPx.ah (h : DPx w B N S p σ vt va vh) : ∀ k, va.ownBlock = some k → vh.ownBlock ≠ some k := fun k e e2 => by
  obtain ⟨cs, hc⟩ := h.a.typed k e; obtain ⟨cs', hc'⟩ := h.h.typed k e2; rw [hc] at hc'; cases hc'
theorem DPx.bsz (h : DPx w B N S p σ vt va vh) : B ≤ w.heap.size := by have := h.ge p h.sp; have := blk_lt h.blk; omega
theorem DPx.step (h : DPx w B N S p σ vt va vh) (hm : ∀ k, S k → w'.heap[k]? = w.heap[k]?) (hz : w.heap.size ≤ w'.heap.size) (k5 : Keep5 w w') : DPx w' B N S p σ vt va vh :=
  ⟨(hm p h.sp).trans h.blk, h.t.step (fun k hk => hm k (h.st k hk)) k5, h.a.step (fun k hk => hm k (h.sa k hk)) k5, h.h.step (fun k hk => hm k (h.sh k hk)) k5, h.sp, h.st, h.sa, h.sh, h.ta, fun k hk => Nat.lt_of_lt_of_le (h.lt k hk) hz, h.ge⟩
theorem DPx.below (h : DPx w B N S p σ vt va vh) (hb : Below w.heap.size w w') : DPx w' B N S p σ vt va vh := h.step (fun k hk => hb.block k (h.lt k hk)) hb.size (Keep5.below hb)
theorem DPx.mono (h : DPx w B N S p σ vt va vh) {M : Nat} (hm : N ≤ M) : DPx w B M S p σ vt va vh := ⟨h.blk, h.t, h.a, h.h.mono hm, h.sp, h.st, h.sa, h.sh, h.ta, h.lt, h.ge⟩
theorem DPx.fr (h : DPx w B N S p σ vt va vh) (hb : Below w.heap.size w w') : FrL B S S w w' := ⟨hb.mono h.bsz, Kept.of_below hb S, Keep5.below hb, fun _ k => .inl k⟩
theorem setD (hp : S p) (hB : B ≤ p) {cs : Array Value} (hc : w.heap[p]? = some (.cells cs 67 (0, 0))) (j : Nat) (v : Value) : FrL B S S w (w.setCell ⟨p, j, none⟩ v) :=
  ⟨(Below.refl B w).setCell hB v, (Kept.refl w S).setCell (.inl hp) v, Keep5.set hc (by decide), fun k hk => .inl hk⟩
/-- A plain cell of the end is written. -/
theorem DPx.put (h : DPx w B N S p σ vt va vh) (j : Nat) (v : Value) (σ' : Lk) (hc : (cellsD σ vt va vh).setIfInBounds j v = cellsD σ' vt va vh) (ht : σ'.took = σ.took) (ha : σ'.all = σ.all) (hh : σ'.hold = σ.hold) :
    DPx (w.setCell ⟨p, j, none⟩ v) B N S p σ' vt va vh ∧ FrL B S S w (w.setCell ⟨p, j, none⟩ v) := by
  have hf := setD h.sp (h.ge p h.sp) h.blk j v
  obtain ⟨n1, n2, n3⟩ := h.np
  have far : ∀ {u : Value}, u.ownBlock ≠ some p → ∀ k, u.ownBlock = some k → (w.setCell ⟨p, j, none⟩ v).heap[k]? = w.heap[k]? := fun hu k hk => Below.heap_setCell w _ v k (fun e => hu (by rw [hk]; exact congrArg some e))
  refine ⟨⟨by rw [blk_put h.blk j v rfl, hc], ?_, ?_, ?_, h.sp, h.st, h.sa, h.sh, h.ta, fun k hk => by rw [World.size_setCell]; exact h.lt k hk, h.ge⟩, hf⟩
  · rw [ht]; exact h.t.step (far n1) hf.k5
  · rw [ha]; exact h.a.step (far n2) hf.k5
  · rw [hh]; exact h.h.step (far n3) hf.k5
/-- A row has grown, or a fresh one is at hand: what the write of its cell leaves. -/
theorem turned (h : DPx w B N S p σ vt va vh) {row : Option Nat} {w9 : World} {j : Nat} {v9 : Value} (hg : w.grownBy w9 row) (hr : ∀ k, row = some k → S k ∧ k ≠ p ∧ ∀ cs, w.heap[k]? ≠ some (Obj.cells cs 5 (0, 0)))
    (hat : (∃ k, v9.ownBlock = some k ∧ row = some k) ∨ v9.ownBlock = none ∨ ∃ k, v9.ownBlock = some k ∧ w.heap.size ≤ k) (hlt : ∀ k, v9.ownBlock = some k → k < w9.heap.size) :
    w9.heap[p]? = some (.cells (cellsD σ vt va vh) 67 (0, 0)) ∧ (w9.setCell ⟨p, j, none⟩ v9).heap[p]? = some (.cells ((cellsD σ vt va vh).setIfInBounds j v9) 67 (0, 0)) ∧
      (∀ k, k < w.heap.size → row ≠ some k → k ≠ p → (w9.setCell ⟨p, j, none⟩ v9).heap[k]? = w.heap[k]?) ∧ Keep5 w (w9.setCell ⟨p, j, none⟩ v9) ∧ FrL B S (fun k => S k ∨ v9.ownBlock = some k) w (w9.setCell ⟨p, j, none⟩ v9) ∧
      (∀ k, (S k ∨ v9.ownBlock = some k) → k < (w9.setCell ⟨p, j, none⟩ v9).heap.size) ∧ (∀ k, (S k ∨ v9.ownBlock = some k) → B ≤ k) ∧ v9.ownBlock ≠ some p := by
  have hpw : p < w.heap.size := blk_lt h.blk
  have h0 : w9.heap[p]? = some (.cells (cellsD σ vt va vh) 67 (0, 0)) := (hg.block p hpw (fun e => (hr p e.symm).2.1 rfl)).trans h.blk
  have k9 : Keep5 w w9 := Keep5.grown hg (fun k hk cs => (hr k hk).2.2 cs)
  have ks : Keep5 w (w9.setCell ⟨p, j, none⟩ v9) := k9.trans (Keep5.set h0 (by decide))
  have hge : ∀ k, (S k ∨ v9.ownBlock = some k) → B ≤ k := fun k hk => by
    rcases hk with hk | hk
    · exact h.ge k hk
    · rcases hat with ⟨k', e1, e2⟩ | e1 | ⟨k', e1, e2⟩
      · rw [e1] at hk; cases hk; exact h.ge k (hr k e2).1
      · rw [e1] at hk; cases hk
      · rw [e1] at hk; cases hk; exact Nat.le_trans h.bsz e2
  refine ⟨h0, blk_put h0 j v9 rfl, fun k hk hne hkp => ?_, ks, ?_, fun k hk => ?_, hge, fun e => ?_⟩
  · rw [Below.heap_setCell _ _ _ _ (fun e => hkp e)]
    exact hg.block k hk (fun e => hne e.symm)
  · refine ⟨(pw_below_grown (Below.refl B w) row h.bsz hg (fun k hk => h.ge k (hr k hk).1)).setCell (h.ge p h.sp) v9, (Kept.of_grown hg (Kept.refl w S) (fun k hk => .inl (hr k hk).1)).setCell (.inl h.sp) v9, ks, fun k hk => ?_⟩
    rcases hk with hk | hk
    · exact .inl hk
    · rcases hat with ⟨k', e1, e2⟩ | e1 | ⟨k', e1, e2⟩
      · rw [e1] at hk; cases hk; exact .inl (hr k e2).1
      · rw [e1] at hk; cases hk
      · rw [e1] at hk; cases hk; exact .inr e2
  · rw [World.size_setCell]
    rcases hk with hk | hk
    · exact Nat.lt_of_lt_of_le (h.lt k hk) hg.size
    · exact hlt k hk
  · rcases hat with ⟨k', e1, e2⟩ | e1 | ⟨k', e1, e2⟩
    · rw [e1] at e; cases e; exact (hr p e2).2.1 rfl
    · rw [e1] at e; cases e
    · rw [e1] at e; cases e; omega
theorem own_cases {v v9 : Value} (hat : v9.ownBlock = v.ownBlock ∨ ∃ k, v9.ownBlock = some k ∧ w.heap.size ≤ k) : (∃ k, v9.ownBlock = some k ∧ v.ownBlock = some k) ∨ v9.ownBlock = none ∨ ∃ k, v9.ownBlock = some k ∧ w.heap.size ≤ k := by
  rcases hat with e | e
  · cases hv : v.ownBlock with
    | none => exact .inr (.inl (e.trans hv))
    | some k => exact .inl ⟨k, e.trans hv, rfl⟩
  · exact .inr (.inr e)
/-- A message more is taken. -/
theorem DPx.taken (h : DPx w B N S p σ vt va vh) {ht : List Hd} (hT : Bods w B ht σ.took) {w9 : World} {v9 : Value} {x : Hd} {l : List Int} (hx : Bd w B (encH x) l) (hq9 : kH.R 30 w9 B (fun k => some k = vt.ownBlock ∨ w.heap.size ≤ k) v9 (ht ++ [x])) (hg : w.grownBy w9 vt.ownBlock)
    (hat : v9.ownBlock = vt.ownBlock ∨ ∃ k, v9.ownBlock = some k ∧ w.heap.size ≤ k) :
    w9.heap[p]? = some (.cells (cellsD σ vt va vh) 67 (0, 0)) ∧ DPx (w9.setCell ⟨p, 1, none⟩ v9) B N (fun k => S k ∨ v9.ownBlock = some k) p { σ with took := σ.took ++ [l] } v9 va vh ∧ FrL B S (fun k => S k ∨ v9.ownBlock = some k) w (w9.setCell ⟨p, 1, none⟩ v9) := by
  obtain ⟨n1, n2, n3⟩ := h.np
  obtain ⟨e1, e2, e3, e4, e5, e6, e7, e8⟩ := turned h (j := 1) hg (fun k hk => ⟨h.st k hk, fun e => n1 (by rw [hk, e]), fun cs hc => by obtain ⟨cs', hc'⟩ := h.t.typed k hk; rw [hc] at hc'; cases hc'⟩) (own_cases hat) (fun k hk => by obtain ⟨cs, hc⟩ := Kd.R_typed hq9 k hk; exact blk_lt hc)
  have far : ∀ {u : Value}, (∀ k, u.ownBlock = some k → S k ∧ vt.ownBlock ≠ some k ∧ k ≠ p) → ∀ k, u.ownBlock = some k → (w9.setCell ⟨p, 1, none⟩ v9).heap[k]? = w.heap[k]? := fun hu k hk => e3 k (h.lt k (hu k hk).1) (hu k hk).2.1 (hu k hk).2.2
  refine ⟨e1, ⟨by rw [e2]; rfl, ⟨ht ++ [x], Kd.R_far (Kd.R_tight rfl hq9) (fun k hk e => e8 (by rw [← hk]; exact congrArg some e)) v9, (hT.keep e4).snoc (hx.keep e4)⟩, h.a.step (far fun k hk => ⟨h.sa k hk, fun e => h.ta k e hk, fun e => n2 (by rw [hk, e])⟩) e4, h.h.step (far fun k hk => ⟨h.sh k hk, fun e => h.th k e hk, fun e => n3 (by rw [hk, e])⟩) e4, .inl h.sp, fun k hk => .inr hk, fun k hk => .inl (h.sa k hk), fun k hk => .inl (h.sh k hk), fun k hk e => ?_, e6, e7⟩, e5⟩
  rcases hat with h1 | ⟨k', h1, h2⟩
  · exact h.ta k (by rw [← h1]; exact hk) e
  · rw [h1] at hk; cases hk; have := h.lt k (h.sa k e); omega
/-- A message more has come in its turn. -/
theorem DPx.came (h : DPx w B N S p σ vt va vh) {ha : List Hd} (hA : Bods w B ha σ.all) {w9 : World} {v9 : Value} {x : Hd} {l : List Int} (hx : Bd w B (encH x) l) (hq9 : kH.R 30 w9 B (fun k => some k = va.ownBlock ∨ w.heap.size ≤ k) v9 (ha ++ [x])) (hg : w.grownBy w9 va.ownBlock)
    (hat : v9.ownBlock = va.ownBlock ∨ ∃ k, v9.ownBlock = some k ∧ w.heap.size ≤ k) :
    w9.heap[p]? = some (.cells (cellsD σ vt va vh) 67 (0, 0)) ∧ DPx (w9.setCell ⟨p, 4, none⟩ v9) B N (fun k => S k ∨ v9.ownBlock = some k) p { σ with all := σ.all ++ [l] } vt v9 vh ∧ FrL B S (fun k => S k ∨ v9.ownBlock = some k) w (w9.setCell ⟨p, 4, none⟩ v9) ∧ (∀ k, k < w.heap.size → va.ownBlock ≠ some k → k ≠ p → (w9.setCell ⟨p, 4, none⟩ v9).heap[k]? = w.heap[k]?) := by
  obtain ⟨n1, n2, n3⟩ := h.np
  obtain ⟨e1, e2, e3, e4, e5, e6, e7, e8⟩ := turned h (j := 4) hg (fun k hk => ⟨h.sa k hk, fun e => n2 (by rw [hk, e]), fun cs hc => by obtain ⟨cs', hc'⟩ := h.a.typed k hk; rw [hc] at hc'; cases hc'⟩) (own_cases hat) (fun k hk => by obtain ⟨cs, hc⟩ := Kd.R_typed hq9 k hk; exact blk_lt hc)
  have far : ∀ {u : Value}, (∀ k, u.ownBlock = some k → S k ∧ va.ownBlock ≠ some k ∧ k ≠ p) → ∀ k, u.ownBlock = some k → (w9.setCell ⟨p, 4, none⟩ v9).heap[k]? = w.heap[k]? := fun hu k hk => e3 k (h.lt k (hu k hk).1) (hu k hk).2.1 (hu k hk).2.2
  refine ⟨e1, ⟨by rw [e2]; rfl, h.t.step (far fun k hk => ⟨h.st k hk, fun e => h.ta k hk e, fun e => n1 (by rw [hk, e])⟩) e4, ⟨ha ++ [x], Kd.R_far (Kd.R_tight rfl hq9) (fun k hk e => e8 (by rw [← hk]; exact congrArg some e)) v9, (hA.keep e4).snoc (hx.keep e4)⟩, h.h.step (far fun k hk => ⟨h.sh k hk, fun e => h.ah k e hk, fun e => n3 (by rw [hk, e])⟩) e4, .inl h.sp, fun k hk => .inl (h.st k hk), fun k hk => .inr hk, fun k hk => .inl (h.sh k hk), fun k hk e => ?_, e6, e7⟩, e5, e3⟩
  rcases hat with h1 | ⟨k', h1, h2⟩
  · exact h.ta k hk (by rw [← h1]; exact e)
  · rw [h1] at e; cases e; have := h.lt k (h.st k hk); omega
/-- What is held has grown, or lies in a fresh row. -/
theorem DPx.holds (h : DPx w B N S p σ vt va vh) {w9 : World} {v9 : Value} {hs : List Hm} {hold : Int → Option (List Int)} {M : Nat} {row : Option Nat} (hrow : row = vh.ownBlock ∨ row = none) (hH : HeldD w B hs hold) (hM : hs.length ≤ M) (hq9 : kM.R 122 w9 B (fun k => some k = vh.ownBlock ∨ w.heap.size ≤ k) v9 hs) (hg : w.grownBy w9 row)
    (hat : (v9.ownBlock = row) ∨ ∃ k, v9.ownBlock = some k ∧ w.heap.size ≤ k) :
    w9.heap[p]? = some (.cells (cellsD σ vt va vh) 67 (0, 0)) ∧ DPx (w9.setCell ⟨p, 6, none⟩ v9) B M (fun k => S k ∨ v9.ownBlock = some k) p { σ with hold := hold } vt va v9 ∧ FrL B S (fun k => S k ∨ v9.ownBlock = some k) w (w9.setCell ⟨p, 6, none⟩ v9) := by
  obtain ⟨n1, n2, n3⟩ := h.np
  have hrv : ∀ k, row = some k → vh.ownBlock = some k := fun k hk => by
    rcases hrow with e | e
    · rw [← e]; exact hk
    · rw [e] at hk; cases hk
  have hat' : (∃ k, v9.ownBlock = some k ∧ row = some k) ∨ v9.ownBlock = none ∨ ∃ k, v9.ownBlock = some k ∧ w.heap.size ≤ k := by
    rcases hat with e | e
    · cases hv : row with
      | none => exact .inr (.inl (e.trans hv))
      | some k => exact .inl ⟨k, e.trans hv, rfl⟩
    · exact .inr (.inr e)
  obtain ⟨e1, e2, e3, e4, e5, e6, e7, e8⟩ := turned h (j := 6) hg (fun k hk => ⟨h.sh k (hrv k hk), fun e => n3 (by rw [hrv k hk, e]), fun cs hc => by obtain ⟨cs', hc'⟩ := h.h.typed k (hrv k hk); rw [hc] at hc'; cases hc'⟩) hat' (fun k hk => by obtain ⟨cs, hc⟩ := Kd.R_typed hq9 k hk; exact blk_lt hc)
  have far : ∀ {u : Value}, (∀ k, u.ownBlock = some k → S k ∧ vh.ownBlock ≠ some k ∧ k ≠ p) → ∀ k, u.ownBlock = some k → (w9.setCell ⟨p, 6, none⟩ v9).heap[k]? = w.heap[k]? := fun hu k hk => e3 k (h.lt k (hu k hk).1) (fun e => (hu k hk).2.1 (hrv k e)) (hu k hk).2.2
  exact ⟨e1, ⟨by rw [e2]; rfl, h.t.step (far fun k hk => ⟨h.st k hk, fun e => h.th k hk e, fun e => n1 (by rw [hk, e])⟩) e4, h.a.step (far fun k hk => ⟨h.sa k hk, fun e => h.ah k hk e, fun e => n2 (by rw [hk, e])⟩) e4, ⟨hs, Kd.R_far (Kd.R_tight rfl hq9) (fun k hk e => e8 (by rw [← hk]; exact congrArg some e)) v9, hH.keep e4, hM⟩, .inl h.sp, fun k hk => .inl (h.st k hk), fun k hk => .inl (h.sa k hk), fun k hk => .inr hk, h.ta, e6, e7⟩, e5⟩
end
theorem DP.step (h : DP w B N S p σ) (hm : ∀ k, S k → w'.heap[k]? = w.heap[k]?) (hz : w.heap.size ≤ w'.heap.size) (k5 : Keep5 w w') : DP w' B N S p σ := by
  obtain ⟨vt, va, vh, h⟩ := h; exact ⟨vt, va, vh, h.step hm hz k5⟩
theorem DP.below (h : DP w B N S p σ) (hb : Below w.heap.size w w') : DP w' B N S p σ := by
  obtain ⟨vt, va, vh, h⟩ := h; exact ⟨vt, va, vh, h.below hb⟩
theorem DP.mono (h : DP w B N S p σ) {M : Nat} (hm : N ≤ M) : DP w B M S p σ := by
  obtain ⟨vt, va, vh, h⟩ := h; exact ⟨vt, va, vh, h.mono hm⟩
theorem DP.bsz (h : DP w B N S p σ) : B ≤ w.heap.size := by obtain ⟨vt, va, vh, h⟩ := h; exact h.bsz
theorem DP.lt (h : DP w B N S p σ) : ∀ k, S k → k < w.heap.size := by obtain ⟨vt, va, vh, h⟩ := h; exact h.lt
/-- What is held: one more; one taken out. -/
theorem HeldD.more {hs : List Hm} {hold : Int → Option (List Int)} (h : HeldD w B hs hold) {x : Int} {a : Hd} {l : List Int} (hn : hold x = none) (ha : Bd w B (encH a) l) : HeldD w B (hs ++ [(x, a)]) (setH hold x (some l)) := by
  have h0 := h.of x
  rw [hn] at h0
  refine ⟨?_, fun y => ?_⟩
  · rw [List.map_append, List.nodup_append]
    refine ⟨h.nd, by simp, fun u hu v hv e => ?_⟩
    obtain ⟨⟨z, b⟩, hz, rfl⟩ := List.mem_map.1 hu
    simp at hv
    have e' : z = x := (show z = v from e).trans hv
    exact h0 b (by rw [← e']; exact hz)
  · unfold setH
    by_cases e : y = x
    · subst e
      rw [if_pos rfl]
      exact ⟨a, by simp, ha⟩
    · rw [if_neg e]
      have := h.of y
      cases hy : hold y with
      | none =>
        rw [hy] at this
        intro b hb
        rcases List.mem_append.1 hb with hb | hb
        · exact this b hb
        · simp at hb; exact e hb.1
      | some m =>
        rw [hy] at this
        obtain ⟨b, hb, hbd⟩ := this
        exact ⟨b, List.mem_append_left _ hb, hbd⟩
theorem HeldD.less {hs : List Hm} {hold : Int → Option (List Int)} (h : HeldD w B hs hold) {i : Nat} (hi : i < hs.length) : HeldD w B (hs.take i ++ hs.drop (i + 1)) (setH hold hs[i].1 none) := by
  have hsub : List.Sublist (hs.take i ++ hs.drop (i + 1)) hs := by
    conv => rhs; rw [← List.take_append_drop i hs]
    rw [List.drop_eq_getElem_cons hi]
    exact List.Sublist.append (List.Sublist.refl _) (List.sublist_cons_self _ _)
  have hnd : True ∧ ∀ b, (hs[i].1, b) ∉ hs.take i ++ hs.drop (i + 1) := by
    have hn := h.nd
    have e0 : hs = hs.take i ++ hs[i] :: hs.drop (i + 1) := by rw [← List.drop_eq_getElem_cons hi, List.take_append_drop]
    have hn2 : ((hs.take i ++ hs[i] :: hs.drop (i + 1)).map (·.1)).Nodup := by rw [← e0]; exact hn
    rw [List.map_append, List.map_cons, List.nodup_append, List.nodup_cons] at hn2
    obtain ⟨a1, ⟨a2, a3⟩, a4⟩ := hn2
    refine ⟨trivial, fun b hb => ?_⟩
    rcases List.mem_append.1 hb with hb | hb
    · exact a4 _ (List.mem_map.2 ⟨_, hb, rfl⟩) _ (List.mem_cons_self ..) rfl
    · exact a2 (List.mem_map.2 ⟨_, hb, rfl⟩)
  refine ⟨List.Sublist.nodup (hsub.map _) h.nd, fun y => ?_⟩
  unfold setH
  by_cases e : y = hs[i].1
  · rw [if_pos e, e]
    exact hnd.2
  · rw [if_neg e]
    have := h.of y
    cases hy : hold y with
    | none => rw [hy] at this; exact fun b hb => this b (hsub.subset hb)
    | some m =>
      rw [hy] at this
      obtain ⟨b, hb, hbd⟩ := this
      refine ⟨b, ?_, hbd⟩
      have e0 : hs = hs.take i ++ hs[i] :: hs.drop (i + 1) := by rw [← List.drop_eq_getElem_cons hi, List.take_append_drop]
      rw [e0] at hb
      rcases List.mem_append.1 hb with hb | hb
      · exact List.mem_append_left _ hb
      · rcases List.mem_cons.1 hb with hb | hb
        · exact absurd (congrArg Prod.fst hb) e
        · exact List.mem_append_right _ hb
theorem nodup_inj : ∀ {l : List Int} (_ : l.Nodup) {i j : Nat} {hi : i < l.length} {hj : j < l.length}, l[j] = l[i] → j = i
  | [], _, i, _, hi, _, _ => absurd hi (Nat.not_lt_zero _)
  | a :: l, hn, i, j, hi, hj, e => by
    obtain ⟨h1, h2⟩ := List.nodup_cons.1 hn
    match i, j, hi, hj, e with
    | 0, 0, _, _, _ => rfl
    | 0, j + 1, _, hj, e => exact absurd (by rw [← show l[j]'(Nat.lt_of_succ_lt_succ hj) = a from e]; exact List.getElem_mem _) h1
    | i + 1, 0, hi, _, e => exact absurd (by rw [show a = l[i]'(Nat.lt_of_succ_lt_succ hi) from e]; exact List.getElem_mem _) h1
    | i + 1, j + 1, hi, hj, e => rw [nodup_inj h2 (hi := Nat.lt_of_succ_lt_succ hi) (hj := Nat.lt_of_succ_lt_succ hj) e]
/-- What stands at a place. -/
theorem HeldD.here {hs : List Hm} {hold : Int → Option (List Int)} (h : HeldD w B hs hold) {i : Nat} (hi : i < hs.length) : ∃ l, hold hs[i].1 = some l ∧ Bd w B (encH hs[i].2) l := by
  have := h.of hs[i].1
  cases hy : hold hs[i].1 with
  | none => rw [hy] at this; exact absurd (List.getElem_mem hi) (this _)
  | some l =>
    rw [hy] at this
    obtain ⟨b, hb, hbd⟩ := this
    refine ⟨l, rfl, ?_⟩
    obtain ⟨j, hj, hjb⟩ := List.getElem_of_mem hb
    have hn := h.nd
    have e1 : (hs.map (·.1))[j]'(by simpa using hj) = (hs.map (·.1))[i]'(by simpa using hi) := by simp [hjb]
    have e2 : j = i := nodup_inj hn e1
    subst e2
    rw [hjb]
    exact hbd
end Go.Proofs.Ytekakngojhnleaa.Xa
/- Links: New, Tick, find of the document walked. -/
namespace Go.Proofs.Ytekakngojhnleaa.Xb
open Go.RowKit Go.Maps Go.Proofs.Ytekakngojhnleaa.Lp Go.Proofs.Ytekakngojhnleaa.Lm Go.Proofs.Ytekakngojhnleaa.La Go.Proofs.Ytekakngojhnleaa.Lb Go.Proofs.Ytekakngojhnleaa.Lc Go.Proofs.Ytekakngojhnleaa.Ld Go.Proofs.Ytekakngojhnleaa.Le Go.Proofs.Ytekakngojhnleaa.Xa Go.Proofs.YtekakngojhnleaaW.PrintWords Go.Proofs.YtekakngojhnleaaW.PrintLast Go.Proofs.YtekakngojhnleaaW.PrintMore
set_option linter.unusedVariables false
set_option linter.unusedSimpArgs false
variable {w w' : World} {B N p : Nat} {S : Nat → Prop} {σ : Lk}

theorem rtick_calls (h : DP w B N S p σ) : Calls Try.prog 33 #[.pointer (some ⟨p, 0, none⟩)] w fun e w' => e = .returned (.tuple #[]) ∧ DP w' B N S p (tickL σ) ∧ FrL B S S w w' := by
  obtain ⟨vt, va, vh, hx⟩ := h
  have c8 : w.cell? ⟨p, 8, none⟩ = some (.bool σ.tick) := blk_cell hx.blk 8
  have f8 : w.frozen? ⟨p, 8, none⟩ = false := blk_frozen hx.blk 8
  have H := Aside0.mk hx
  clear hx
  go_enter Try.func33, Try.ntmps33
  go_wp2_with fail
  go_end0
  obtain ⟨g0, g1⟩ := DPx.put H.out 8 (.bool true) (tickL σ) rfl rfl rfl rfl
  exact ⟨rfl, ⟨vt, va, vh, g0⟩, g1⟩
set_option maxRecDepth 100000 in
set_option maxHeartbeats 1000000 in
theorem rnew_yes (n : Nat) (h0 : 1 ≤ n) (h1 : n ≤ 16) (w : World) : Calls Try.prog 15 #[.int .i64 (n : Int)] w fun e w' =>
    e = .returned (.tuple #[.pointer (some ⟨w.heap.size, 0, none⟩), .int .i64 0]) ∧ (∀ B, B ≤ w.heap.size → DP w' B 0 (fun k => k = w.heap.size) w.heap.size (newL n)) ∧ Below w.heap.size w w' := by
  have hn0 : ¬ (n : Int) < 1 := by omega
  have hn1 : ¬ (16 : Int) < (n : Int) := by omega
  go_enter Try.func15, Try.ntmps15
  go_wp2_with fail
  try go_ret2
  refine ⟨?_, fun B hB => ⟨.slice none 0 0, .slice none 0 0, .slice none 0 0, ?_, ⟨[], Kd.R_nil _ _ _ _ _, Bods.nil _ _⟩, ⟨[], Kd.R_nil _ _ _ _ _, Bods.nil _ _⟩, ⟨[], Kd.R_nil _ _ _ _ _, ⟨List.nodup_nil, fun x => by show ∀ h, (x, h) ∉ []; simp⟩, Nat.le_refl _⟩, rfl, fun k hk => (nomatch hk), fun k hk => (nomatch hk), fun k hk => (nomatch hk), fun k hk => (nomatch hk), fun k hk => ?_, fun k hk => ?_⟩, below_alloc (Below.refl _ _) _⟩
  · first | rfl | simp
  · exact blk_new w _
  · rw [size_al]; omega
  · omega
set_option maxRecDepth 100000 in
theorem rnew_no (n : Int) (h : n < 1 ∨ 16 < n) (w : World) : Calls Try.prog 15 #[.int .i64 n] w fun e w' => e = .returned (.tuple #[.pointer none, .int .i64 1]) ∧ w' = w := by
  by_cases h0 : n < 1
  · clear h
    go_enter Try.func15, Try.ntmps15
    go_wp2_with fail
    try go_ret2
    exact ⟨rfl, rfl⟩
  · have h1 : 16 < n := by omega
    clear h
    go_enter Try.func15, Try.ntmps15
    go_wp2_with fail
    try go_ret2
    exact ⟨rfl, rfl⟩
theorem rmeas {i n : Nat} (h : i < n) : n - (intOf (.int .i64 ((i : Int) + 1))).toNat < n - (intOf (.int .i64 (i : Int))).toNat := by
  simp only [intOf]
  omega
/-- Where a message is held. -/
def fnd (hs : List Hm) (x : Int) : Int := match hs.findIdx? (fun y => y.1 == x) with | some i => (i : Int) | none => -1
def zM : Hm := (0, zH)
def rdM (xs : List Hm) (i : Int) : Hm := xs.getD i.toNat zM
theorem at_M {A : Option Addr} {n : Nat} {xs : List Hm} (h : kM.C w A n xs) (i : Int) (h0 : 0 ≤ i) (h1 : i < n) : ∃ ad, A = some ad ∧ w.cell? (ad.add (i.toNat * 2)) = some (.int .i64 (rdM xs i).1) ∧ w.cell? ⟨(ad.add (i.toNat * 2)).block, (ad.add (i.toNat * 2)).off + 1, none⟩ = some (encH (rdM xs i).2) := by
  obtain ⟨ad, c, e, _, hK, hc0⟩ := Kd.C_get h zM i h0 h1
  have hc : ∀ j u, c[j]? = some u → w.cell? (ad.add (i.toNat * 2 + j)) = some u := hc0
  have hK1 : kM.K w (rdM xs i) c := hK
  obtain ⟨c1, c2, hcc, hk1, hk2⟩ := hK1
  have hk1' : c1 = [.int .i64 (rdM xs i).1] := hk1
  have hk2' : c2 = [encH (rdM xs i).2] := hk2
  subst hk1' hk2' hcc
  exact ⟨ad, e, hc 0 _ rfl, by rw [← add_field _ _ 1 (by omega)]; exact hc 1 _ rfl⟩
theorem rdM_get {hs : List Hm} {i : Nat} (h : i < hs.length) : rdM hs (i : Int) = hs[i] := by
  unfold rdM
  rw [Int.toNat_natCast, List.getD_eq_getElem?_getD, List.getElem?_eq_getElem h, Option.getD_some]
theorem fnd_at {hs : List Hm} {x : Int} {i : Nat} (h : i < hs.length) (e : hs[i].1 = x) (hn : ∀ j (hj : j < hs.length), j < i → hs[j].1 ≠ x) : fnd hs x = i := by
  have : hs.findIdx? (fun y => y.1 == x) = some i := by
    rw [List.findIdx?_eq_some_iff_getElem]
    exact ⟨h, by simp [e], fun j hj => by simp; exact hn j (by omega) hj⟩
  unfold fnd
  rw [this]
theorem fnd_no {hs : List Hm} {x : Int} (hn : ∀ j (hj : j < hs.length), hs[j].1 ≠ x) : fnd hs x = -1 := by
  have : hs.findIdx? (fun y => y.1 == x) = none := by
    rw [List.findIdx?_eq_none_iff]
    intro y hy
    obtain ⟨j, hj, rfl⟩ := List.getElem_of_mem hy
    simp [hn j hj]
  unfold fnd
  rw [this]
theorem fnd_cases (hs : List Hm) (x : Int) : (∃ i, ∃ h : i < hs.length, fnd hs x = (i : Int) ∧ hs[i].1 = x) ∨ (fnd hs x = -1 ∧ ∀ a, (x, a) ∉ hs) := by
  cases e : hs.findIdx? (fun y => y.1 == x) with
  | some i =>
    obtain ⟨h, h1, _⟩ := List.findIdx?_eq_some_iff_getElem.1 e
    exact .inl ⟨i, h, by unfold fnd; rw [e], by simpa using h1⟩
  | none =>
    refine .inr ⟨by unfold fnd; rw [e], fun a ha => ?_⟩
    have := List.findIdx?_eq_none_iff.1 e _ ha
    simp at this
set_option maxRecDepth 100000 in
set_option maxHeartbeats 1000000 in
theorem find_some {vt va : Value} {ad : Addr} {n c : Nat} {hs : List Hm} (hb : w.heap[p]? = some (.cells (cellsD σ vt va (.slice (some ad) n c)) 67 (0, 0))) (hC : kM.C w (some ad) n hs) (hn : hs.length = n) (hm : n ≤ 1000000) (x : Int) :
    Calls Try.prog 72 #[.pointer (some ⟨p, 0, none⟩), .int .i64 x] w fun e w' => e = .returned (.int .i64 (fnd hs x)) ∧ w' = w := by
  have c6 : w.cell? ⟨p, 6, none⟩ = some (.slice (some ad) n c) := blk_cell hb 6
  have HC := Aside0.mk hC
  have HN := Aside0.mk hn
  obtain ⟨R, hR⟩ : ∃ R, R = fnd hs x := ⟨_, rfl⟩
  rw [← hR]
  have HR := Aside0.mk hR
  clear hb hC hn hR
  go_enter Try.func72, Try.ntmps72
  go_wp2_with fail
  go_loopw [5] (fun v5 wr => ∃ i : Nat, v5 = .int .i64 (i : Int) ∧ i ≤ n ∧ Aside0 (∀ j (hj : j < hs.length), j < i → hs[j].1 ≠ x) ∧ wr = w) (fun v5 _ => n - (intOf v5).toNat)
  case atStart => exact ⟨0, rfl, Nat.zero_le _, ⟨fun j _ h => absurd h (Nat.not_lt_zero _)⟩, rfl⟩
  case round =>
    obtain ⟨i, rfl, hi, HT, rfl⟩ := hrel
    by_cases hlt : i < n
    · have hil : (i : Int) < (n : Int) := by omega
      obtain ⟨_, hA, q0, _⟩ := at_M HC.out (i : Int) (by omega) (by omega)
      cases hA
      rw [Int.toNat_natCast] at q0
      rw [rdM_get (by have := HN.out; omega : i < hs.length)] at q0
      have HI := Aside0.mk (show i < hs.length by have := HN.out; omega)
      obtain ⟨y, hy⟩ : ∃ y, y = (hs[i]'HI.out).1 := ⟨_, rfl⟩
      rw [← hy] at q0
      have HY := Aside0.mk hy
      clear hy
      have hwi : wrap64 ((i : Int) + 1) = (i : Int) + 1 := by unfold wrap64; omega
      by_cases e : y = x
      · have he : (y == x) = true := beq_iff_eq.2 e
        have HE := Aside0.mk e
        clear e
        go_wp2_with fail
        go_ret
        refine ⟨?_, rfl⟩
        have e2 : R = (i : Int) := by rw [HR.out]; exact fnd_at HI.out (by rw [← HY.out]; exact HE.out) HT.out
        rw [e2]
        rfl
      · have he : (y == x) = false := beq_eq_false_iff_ne.2 e
        have HE := Aside0.mk e
        clear e
        go_wp2_with fail
        go_roundw
        case rel =>
          refine ⟨i + 1, by go_num, hlt, ⟨fun j hj hji => ?_⟩, trivial⟩
          rcases Nat.lt_succ_iff_lt_or_eq.1 hji with h1 | h1
          · exact HT.out j hj h1
          · subst h1; rw [← HY.out]; exact HE.out
        case measure => exact rmeas hlt
    · have hil : ¬ (i : Int) < (n : Int) := by omega
      have HI := Aside0.mk (show i = n by omega)
      go_wp2_with fail
      go_ret
      refine ⟨?_, rfl⟩
      have e2 : R = -1 := by rw [HR.out]; exact fnd_no (fun j hj => HT.out j hj (by have := HI.out; have := HN.out; omega))
      rw [e2]
      rfl
set_option maxRecDepth 100000 in
set_option maxHeartbeats 1000000 in
theorem find_none {vt va : Value} {A : Option Addr} {c : Nat} (hb : w.heap[p]? = some (.cells (cellsD σ vt va (.slice A 0 c)) 67 (0, 0))) (x : Int) :
    Calls Try.prog 72 #[.pointer (some ⟨p, 0, none⟩), .int .i64 x] w fun e w' => e = .returned (.int .i64 (-1)) ∧ w' = w := by
  have c6 : w.cell? ⟨p, 6, none⟩ = some (.slice A 0 c) := blk_cell hb 6
  clear hb
  go_enter Try.func72, Try.ntmps72
  go_wp2_with fail
  go_loopw [5] (fun v5 wr => v5 = .int .i64 0 ∧ wr = w) (fun v5 _ => 1 - (intOf v5).toNat)
  case atStart => exact ⟨rfl, rfl⟩
  case round =>
    obtain ⟨rfl, rfl⟩ := hrel
    go_wp2_with fail
    go_ret
    exact ⟨rfl, rfl⟩
theorem find_calls {vt va vh : Value} {hs : List Hm} {ok : Nat → Prop} (hb : w.heap[p]? = some (.cells (cellsD σ vt va vh) 67 (0, 0))) (hR : kM.R 122 w B ok vh hs) (hm : hs.length ≤ 1000000) (x : Int) :
    Calls Try.prog 72 #[.pointer (some ⟨p, 0, none⟩), .int .i64 x] w fun e w' => e = .returned (.int .i64 (fnd hs x)) ∧ w' = w := by
  obtain ⟨A, c, rfl, hc, hC⟩ := Kd.R_reads hR
  rcases Nat.eq_zero_or_pos hs.length with h | h
  · have e : hs = [] := List.eq_nil_of_length_eq_zero h
    subst e
    exact find_none hb x
  · obtain ⟨ad, rfl, _⟩ := hC.2.2 h
    exact find_some hb hC rfl hm x
end Go.Proofs.Ytekakngojhnleaa.Xb
