/- Parts of the proof of LinkArrives, merged: each is proved for all its inputs. -/
import Derived.Test.YtekakngojhnleaaMgLinkArrivesg
import Derived.BigRegion
import Derived.Deep.CutRange
import Derived.RangeFuncNested
import Derived.RangeFuncBound
import Derived.RangeFuncCalls
import Derived.RangeFuncLeaves
import Derived.RangeFuncBox
import Derived.Shelf.Abstract
import Derived.Shelf.RegionOpen
import Derived.OwnWalkIn
import Derived.TacticsInMore
import Derived.LoopNIn
import Derived.LoopIn
/- Links: In of the program walked: a frame that is taken. -/
namespace Go.Proofs.Ytekakngojhnleaa.Le
open Go.RowKit Go.Maps Go.Proofs.Ytekakngojhnleaa.Mp Go.Proofs.Ytekakngojhnleaa.Mq Go.Proofs.Ytekakngojhnleaa.Lp Go.Proofs.Ytekakngojhnleaa.Lm Go.Proofs.Ytekakngojhnleaa.La Go.Proofs.Ytekakngojhnleaa.Lb Go.Proofs.Ytekakngojhnleaa.Lc Go.Proofs.Ytekakngojhnleaa.Ld Go.Proofs.Ytekakngojhnleaa.Dw Go.Proofs.YtekakngojhnleaaW.PrintWords Go.Proofs.YtekakngojhnleaaW.PrintLast Go.Proofs.YtekakngojhnleaaW.PrintMore
set_option linter.unusedVariables false
set_option linter.unusedSimpArgs false
variable {w : World} {B N p : Nat} {S : Nat → Prop} {σ : Lk}

/-- What stands while a frame is taken: the end, the frame's own block, its body. -/
structure Mid (w u : World) (B N : Nat) (S : Nat → Prop) (p g : Nat) (σ : Lk) (d : Bool) (s a : Int) (A1 : Option Addr) (c1 : Nat) (l : List Int) : Prop where
 lp : ∃ S', LP u B N S' p σ ∧ FrL B S S' w u
 fr : u.heap[g]? = some (.cells #[.bool d, .int .i64 s, .int .i64 a, .slice A1 l.length c1] 53 (0, 0))
 bd : Bd u B (encH ⟨A1, l.length, c1⟩) l
 ge : w.heap.size ≤ g
theorem mid0 {w1 : World} {b n s : Nat} {vq vi : Value} {hq hi : List Hd} {f : Int → Option Value} (h : LPx w B N S p σ b vq vi hq hi n s f) (hB : B ≤ w.heap.size) (hb : Below w.heap.size w w1) {A1 : Option Addr} {c1 : Nat} {m : List Int} (hbd : Bd w1 B (encH ⟨A1, m.length, c1⟩) m) (d : Bool) (s' a : Int) :
  Mid w (w1.alloc (.cells #[.bool d, .int .i64 s', .int .i64 a, .slice A1 m.length c1] 53)).drew B N S p w1.heap.size σ d s' a A1 c1 m := by
 have hb1 : Below w1.heap.size w1 (w1.alloc (.cells #[.bool d, .int .i64 s', .int .i64 a, .slice A1 m.length c1] 53)).drew := below_drew (below_alloc (Below.refl _ w1) _)
 have hb2 := hb.trans (hb1.mono hb.size)
 exact ⟨⟨S, ⟨b, vq, vi, hq, hi, n, s, f, LPx.below h hb2⟩, ⟨hb2.mono hB, Kept.of_below hb2 S, Keep5.below hb2, fun k hk => .inl hk⟩⟩, blk_new w1 _, hbd.keep (Keep5.below hb1), hb.size⟩
theorem FrL.below {S' : Nat → Prop} {u u' : World} (h : FrL B S S' w u) (hb : Below u.heap.size u u') (hB : B ≤ u.heap.size) : FrL B S S' w u' :=
 FrL.trans h ⟨hb.mono hB, Kept.of_below hb S', Keep5.below hb, fun _ h => .inl h⟩
theorem Mid.below {u u' : World} {g : Nat} {d : Bool} {s a : Int} {A1 : Option Addr} {c1 : Nat} {m : List Int} (h : Mid w u B N S p g σ d s a A1 c1 m) (hb : Below u.heap.size u u') : Mid w u' B N S p g σ d s a A1 c1 m := by
 obtain ⟨⟨S1, hl, hf⟩, hfr, hbd, hge⟩ := h
 have hB : B ≤ u.heap.size := by obtain ⟨b, vq, vi, hq, hi, n, sz, f, hx⟩ := hl; have := hx.ge p hx.sp; have := blk_lt hx.blk; omega
 exact ⟨⟨S1, LP.below hl hb, FrL.below hf hb hB⟩, blk_below hfr hb, hbd.keep (Keep5.below hb), hge⟩
theorem ne_frame {u : World} {g : Nat} {cs : Array Value} {b n s : Nat} {vq vi : Value} {hq hi : List Hd} {f : Int → Option Value} (h : LPx u B N S p σ b vq vi hq hi n s f) (hg : u.heap[g]? = some (.cells cs 53 (0, 0))) : ∀ k, S k → k = p ∨ k = b ∨ some k = vq.ownBlock ∨ some k = vi.ownBlock → k ≠ g := by
 intro k hk hh e
 subst e
 rcases hh with rfl | rfl | h1 | h1
 ·
  rw [h.blk] at hg; cases hg
 ·
  exact h.m.ne_cells hg rfl
 ·
  obtain ⟨cs', hc⟩ := Kd.Q_typed h.q k h1.symm; rw [hc] at hg; cases hg
 ·
  obtain ⟨cs', hc⟩ := Kd.Q_typed h.i k h1.symm; rw [hc] at hg; cases hg
theorem mid_ack {u : World} {g : Nat} {b n sz : Nat} {vq vi : Value} {hq hi : List Hd} {f : Int → Option Value} {S1 : Nat → Prop} {d : Bool} {s : Int} {A1 : Option Addr} {c1 : Nat} {m : List Int} {a : Nat} {x : Int} (h : LPx u B N S1 p σ b vq vi hq hi n sz f) (hf : FrL B S S1 w u)
  (hblk : u.heap[g]? = some (.cells #[.bool d, .int .i64 s, .int .i64 x, .slice A1 m.length c1] 53 (0, 0))) (hbd : Bd u B (encH ⟨A1, m.length, c1⟩) m) (hge : w.heap.size ≤ g) (hsa : σ.sure ≤ a) (v' : Value) (hq' : kH.Q 30 u B (fun k => some k = vq.ownBlock) v' (hq.drop (a - σ.sure))) :
  Mid w ((u.setCell ⟨p, 1, none⟩ v').setCell ⟨p, 2, none⟩ (.int .i64 (a : Int))).drew B N S p g { σ with sure := a } d s x A1 c1 m := by
 have hpg : p ≠ g := ne_frame h hblk p h.sp (.inl rfl)
 obtain ⟨h1, h2⟩ := ack_end h a v' hq' hsa
 have hm : Mid w ((u.setCell ⟨p, 1, none⟩ v').setCell ⟨p, 2, none⟩ (.int .i64 (a : Int))) B N S p g { σ with sure := a } d s x A1 c1 m :=
  ⟨⟨S1, ⟨_, _, _, _, _, _, _, _, h1⟩, FrL.trans hf h2⟩, by rw [Below.heap_setCell _ _ _ _ (fun e => hpg e.symm), Below.heap_setCell _ _ _ _ (fun e => hpg e.symm)]; exact hblk, hbd.keep h2.k5, hge⟩
 exact hm.below (below_drew (Below.refl _ _))
theorem law : Keyed Try.prog 3 := int_keyed Try.underlying3
section
variable {P : Program} {k t e : TypeId} {b n s : Nat} {f : Int → Option Value}
/-- The run of 'v, ok := m[k]', for regions. -/
theorem run_look_ok (K : Keyed P k) (hk : P.underlying k = some (.int .i64)) (ht : P.underlying t = some (.map k e)) {z : Value} (hz : (zeroValue e).run P w = .ok z w) (hown : IntMap P k w b n f s) (y : Int) (hy : I64 y) :
  (Instr.lookup t (.map (some b)) (.int .i64 y) true).run P w = .ok (.tuple #[(f y).getD z, .bool (f y).isSome]) w := by
 obtain ⟨D, hD, hs, hf⟩ := hown
 obtain ⟨v, ps, hrun, hv⟩ := hD.look_ok K ht hz (R := RV) (zd := .held z) (zp := []) rfl (keyOf_int_mk hk hy)
 obtain ⟨h1, h2⟩ := hf y hy
 have : v = (f y).getD z := by
  have hv' : DataW.held v = D.atKey (kl y) (.held z) := congrArg Prod.fst (Option.some.inj hv)
  cases h : f y with
  | none =>
   rw [h] at h1
   rw [atKey_of_not_has h1] at hv'
   injection hv'
  | some u =>
   rw [h2 u h] at hv'
   injection hv'
 rw [← this, ← h1]
 exact hrun
/-- The run of 'delete(m, k)', for regions. -/
theorem run_delete (K : Keyed P k) (hk : P.underlying k = some (.int .i64)) (ht : P.underlying t = some (.map k e)) (hown : IntMap P k w b n f s) (y : Int) (hy : I64 y) :
  ∃ w', (∀ ty, (Builtin.delete_ #[t, k] ty #[.map (some b), .int .i64 y]).run P w = .ok (.tuple #[]) w') ∧ IntMap P k w' b n (upd f y none) (s - (if (f y).isSome then 1 else 0)) ∧ w.grownBy w' (some b) := by
 obtain ⟨D, hD, hs, hf⟩ := hown
 obtain ⟨w', hrun, h1, h2⟩ := hD.drop K ht (kl := kl y) (keyOf_int_mk hk hy) 0
 obtain ⟨g1, g2⟩ := IntMap.del D (hD.tidy K) hf y hy
 refine ⟨w', fun ty => ?_, ⟨_, h1, by rw [g1, hs], g2⟩, h2.grown⟩
 exact hrun
end
theorem zero30 (w : World) : (zeroValue 30).run Try.prog w = .ok (.slice none 0 0) w := by kernel_rfl
theorem LP.monoN {u : World} {M : Nat} (h : LP u B N S p σ) (hm : N ≤ M) : LP u B M S p σ := by
 obtain ⟨b, vq, vi, hq, hi, n, s, f, h⟩ := h
 exact ⟨b, vq, vi, hq, hi, n, s, f, h.blk, h.q, h.qb, h.i, h.ib, h.m, Nat.le_trans h.mn hm, h.mf, h.sp, h.sb, h.sq, h.si, h.ap, h.lt, h.ge⟩
theorem mid_owes {u : World} {g : Nat} {d : Bool} {s a : Int} {A1 : Option Addr} {c1 : Nat} {m : List Int} (h : Mid w u B N S p g σ d s a A1 c1 m) : Mid w (u.setCell ⟨p, 7, none⟩ (.bool true)) B N S p g { σ with owes := true } d s a A1 c1 m := by
 obtain ⟨⟨S1, ⟨b, vq, vi, hq, hi, n, sz, f, hx⟩, hf⟩, hfr, hbd, hge⟩ := h
 have hpg : p ≠ g := ne_frame hx hfr p hx.sp (.inl rfl)
 obtain ⟨g0, g1, g2, g3, g4, g5, g6, g7⟩ := LPx.put hx 7 (.bool true)
 refine ⟨⟨S1, ⟨b, vq, vi, hq, hi, n, sz, f, g0, g1, g2, g3, g4, g5, hx.mn, g6, hx.sp, hx.sb, hx.sq, hx.si, hx.ap, ?_, hx.ge⟩, FrL.trans hf (FrL.set (hx.ge p hx.sp) hx.sp ⟨_, hx.blk⟩ 7 _)⟩, by rw [Below.heap_setCell _ _ _ _ (fun e => hpg e.symm)]; exact hfr, hbd.keep g7, hge⟩
 intro k hk
 rw [World.size_setCell]
 exact hx.lt k hk
theorem takeH_ok {M : Nat} (h : Lp.Inv M σ) {s : Int} {m : List Int} (hok : okB m) : HW (takeH σ s m) σ.all ((σ.all.length : Int) + 16) := by
 refine ⟨fun x l hx => ?_, h.ha⟩
 unfold takeH at hx
 split at hx
 ·
  rename_i hc
  unfold setH at hx
  by_cases e : x = s
  ·
   rw [if_pos e] at hx
   cases hx
   rw [e]
   exact ⟨hc.2.1, hc.2.2, hok⟩
  ·
   rw [if_neg e] at hx
   have := h.hh x l hx
   exact ⟨by omega, this.2⟩
 ·
  have := h.hh x l hx
  exact ⟨by omega, this.2⟩
theorem mid_store {u w6 : World} {g : Nat} {b n sz s' : Nat} {vq vi : Value} {hq hi : List Hd} {f : Int → Option Value} {S1 : Nat → Prop} {d : Bool} {s a : Int} {A1 : Option Addr} {c1 : Nat} {m : List Int} (h : LPx u B N S1 p σ b vq vi hq hi n sz f) (hf : FrL B S S1 w u)
  (hblk : u.heap[g]? = some (.cells #[.bool d, .int .i64 s, .int .i64 a, .slice A1 m.length c1] 53 (0, 0))) (hbd : Bd u B (encH ⟨A1, m.length, c1⟩) m) (hge : w.heap.size ≤ g)
  (hm : IntMap Try.prog 3 w6 b (n + 1) (upd f s (some (.slice A1 m.length c1))) s') (hg : u.grownBy w6 (some b)) : Mid w w6 B (N + 1) S p g { σ with hold := setH σ.hold s (some m) } d s a A1 c1 m := by
 obtain ⟨h1, h2⟩ := map_end h s (some (.slice A1 m.length c1)) (some m) hm hg (Nat.succ_le_succ h.mn) ⟨_, rfl, hbd⟩
 exact ⟨⟨S1, ⟨_, _, _, _, _, _, _, _, h1⟩, FrL.trans hf h2⟩, (hg.block g (blk_lt hblk) (fun e => h.m.ne_cells hblk (Option.some.inj e).symm)).trans hblk, hbd.keep h2.k5, hge⟩
/-- The loop that takes what comes in its turn. -/
structure LpR (w wr : World) (B N : Nat) (S : Nat → Prop) (p : Nat) (σ : Lk) (v : Value) (is : Bool) (k : Nat) (h : Int → Option (List Int)) (al : List (List Int)) : Prop where
 lp : ∃ S', LP wr B N S' p { σ with hold := h, all := al } ∧ FrL B S S' w wr
 pl : pull k h al = pull 17 σ.hold σ.all
 hw : HW h al ((σ.all.length : Int) + 16)
 top : σ.all.length + 16 ≤ al.length + k
 ln : σ.all.length ≤ al.length
 tl : σ.told ≤ al.length
 is' : is = (h (al.length : Int)).isSome
 v' : ∀ l, h (al.length : Int) = some l → ∃ A c, v = .slice A l.length c ∧ Bd wr B v l
theorem look_of {u : World} {b n sz : Nat} {vq vi : Value} {hq hi : List Hd} {f : Int → Option Value} {S1 : Nat → Prop} (h : LPx u B N S1 p σ b vq vi hq hi n sz f) {x : Int} (h64 : I64 x) {w' : World} (hk : Keep5 u w') :
  (f x).isSome = (σ.hold x).isSome ∧ ∀ l, σ.hold x = some l → ∃ A c, (f x).getD (.slice none 0 0) = .slice A l.length c ∧ Bd w' B ((f x).getD (.slice none 0 0)) l := by
 have hm := h.mf _ h64
 refine ⟨?_, fun l hl => ?_⟩
 ·
  cases hy : σ.hold x with
  | none => rw [hy] at hm; rw [hm]; rfl
  | some l => rw [hy] at hm; obtain ⟨v, hv, _⟩ := hm; rw [hv]; rfl
 ·
  rw [hl] at hm
  obtain ⟨v, hv, hbd⟩ := hm
  rw [hv]
  obtain ⟨A, c, e⟩ := Kd.R_slice hbd
  exact ⟨A, c, e, hbd.keep hk⟩
theorem lp_start {u : World} {b n sz : Nat} {vq vi : Value} {hq hi : List Hd} {f : Int → Option Value} {S1 : Nat → Prop} (h : LPx u B N S1 p σ b vq vi hq hi n sz f) (hf : FrL B S S1 w u) (h64 : I64 (σ.all.length : Int)) (hw : HW σ.hold σ.all ((σ.all.length : Int) + 16)) (ht : σ.told ≤ σ.all.length) :
  LpR w u.drew B N S p σ ((f (σ.all.length : Int)).getD (.slice none 0 0)) (f (σ.all.length : Int)).isSome 17 σ.hold σ.all := by
 have hb : Below u.heap.size u u.drew := below_drew (Below.refl _ u)
 have hB : B ≤ u.heap.size := by have := h.ge p h.sp; have := blk_lt h.blk; omega
 obtain ⟨h1, h2⟩ := look_of h h64 (Keep5.below hb)
 exact ⟨⟨S1, LP.below ⟨b, vq, vi, hq, hi, n, sz, f, h⟩ hb, FrL.below hf hb hB⟩, rfl, hw, by omega, Nat.le_refl _, ht, h1, h2⟩
theorem pull_none : ∀ (k : Nat) {h : Int → Option (List Int)} {al : List (List Int)}, h (al.length : Int) = none → pull k h al = (h, al)
 | 0, h, al, _ => rfl
 | k + 1, h, al, he => by unfold pull; rw [he]
theorem lpr_next {wr u : World} {v : Value} {is : Bool} {k : Nat} {h : Int → Option (List Int)} {al : List (List Int)} {l : List Int} (hL : LpR w wr B N S p σ v is k h al) (he : h (al.length : Int) = some l) {S1 : Nat → Prop} {b n sz : Nat} {vq vi : Value} {hq hi : List Hd} {f : Int → Option Value}
  (hx : LPx u B N S1 p { σ with hold := setH h (al.length : Int) none, all := al ++ [l] } b vq vi hq hi n sz f) (hf : FrL B S S1 w u) (h64 : I64 (((al.length + 1 : Nat) : Nat) : Int)) :
  ∃ k', LpR w u.drew B N S p σ ((f ((al.length + 1 : Nat) : Int)).getD (.slice none 0 0)) (f ((al.length + 1 : Nat) : Int)).isSome k' (setH h (al.length : Int) none) (al ++ [l]) := by
 have hb : Below u.heap.size u u.drew := below_drew (Below.refl _ u)
 have hB : B ≤ u.heap.size := by have := hx.ge p hx.sp; have := blk_lt hx.blk; omega
 obtain ⟨h1, h2⟩ := look_of hx h64 (Keep5.below hb)
 have hlt := (hL.hw.1 _ _ he).2.1
 have htop := hL.top
 have hlen : (al ++ [l]).length = al.length + 1 := by simp
 obtain ⟨k', rfl⟩ : ∃ k', k = k' + 1 := ⟨k - 1, by omega⟩
 refine ⟨k', ⟨S1, LP.below ⟨b, vq, vi, hq, hi, n, sz, f, hx⟩ hb, FrL.below hf hb hB⟩, ?_, ⟨fun x l' hx' => ?_, fun l' hl' => ?_⟩, by rw [hlen]; omega, by rw [hlen]; have := hL.ln; omega, by rw [hlen]; have := hL.tl; omega, by rw [hlen]; exact h1, fun l' hl' => by rw [hlen] at hl'; exact h2 l' hl'⟩
 ·
  rw [← hL.pl]
  conv => rhs; unfold pull
  rw [he]
 ·
  unfold setH at hx'
  by_cases e : x = (al.length : Int)
  ·
   rw [if_pos e] at hx'; cases hx'
  ·
   rw [if_neg e] at hx'
   have := hL.hw.1 x l' hx'
   rw [hlen]
   exact ⟨by omega, this.2⟩
 ·
  rcases List.mem_append.1 hl' with h1 | h1
  ·
   exact hL.hw.2 l' h1
  ·
   rw [List.mem_singleton] at h1; subst h1; exact (hL.hw.1 _ _ he).2.2
set_option maxRecDepth 100000 in
set_option maxHeartbeats 1000000 in
theorem in_yes (h : LP w B N S p σ) {M : Nat} (hI : Inv M σ) (hM : M ≤ 1000000) (hNm : N < maxLen) (A : Option Addr) (c : Nat) (l : List Int) (hr : Kd.C (Kd.int .u8) w A l.length l) (hc : l.length ≤ c) (hl : l.length ≤ 140737488351232) (hb : ∀ x ∈ l, 0 ≤ x ∧ x < 256) (hE : (decA l).2 = 0) (hA : (decA l).1.2.2.1 ≤ (σ.sent : Int)) :
  Calls Try.prog 22 #[.pointer (some ⟨p, 0, none⟩), .slice A l.length c] w fun e w' => e = .returned (.int .i64 (inL σ l).1) ∧ ∃ S', LP w' B (N + 1) S' p (inL σ l).2 ∧ FrL B S S' w w' := by
 obtain ⟨R, hR⟩ : ∃ R, R = inL σ l := ⟨_, rfl⟩
 rw [← hR]
 unfold inL at hR
 rw [if_neg (by omega)] at hR
 have hnn := dec_nums l hE
 have hok := dec_ok l hb hE
 obtain ⟨F, E, hd⟩ : ∃ F E, decA l = (F, E) := ⟨_, _, rfl⟩
 rw [hd] at hE hA hR hnn hok
 obtain ⟨d, s, a', m⟩ := F
 obtain rfl : E = 0 := hE
 change a' ≤ (σ.sent : Int) at hA
 obtain ⟨n0, n1, n2, n3⟩ := hnn
 change 0 ≤ s at n0; change s ≤ 1073741824 at n1; change 0 ≤ a' at n2; change a' ≤ 1073741824 at n3; change okB m at hok
 obtain ⟨a, rfl⟩ : ∃ k : Nat, a' = (k : Int) := ⟨a'.toNat, by omega⟩
 simp only [Int.toNat_natCast] at hR
 obtain ⟨b, vq, vi, hq, hi, n, sz, f, hx⟩ := h
 have HN := Aside0.mk (And.intro n0 n1)
 have HI := Aside0.mk (And.intro hI hM)
 have HOK := Aside0.mk hok
 have HBW := Aside0.mk (show B ≤ w.heap.size by have := hx.ge p hx.sp; have := blk_lt hx.blk; omega)
 have H := Aside0.mk hx
 have HR := Aside0.mk hr
 have HB := Aside0.mk hb
 have HD := Aside0.mk hd
 have HRR := Aside0.mk hR
 clear hx hr hb hd hI hM n0 n1 hok hR
 go_enter Try.func22, Try.ntmps22
 go_wp2_with fail
 refine (decode_calls A c l _ HR.out hc hl HB.out _ _ HD.out).mono ?_
 rintro e w1 ⟨V, rfl, ho, hb1⟩
 obtain ⟨A1, c1, rfl⟩ := Kd.R_slice ho
 have HB1 := Aside0.mk hb1
 have HBD := Aside0.mk (show Bd w1 B (encH ⟨A1, m.length, c1⟩) m from Bd.of ho HBW.out)
 have hbl1 := blk_below H.out.blk hb1
 have d3 : (w1.alloc (.cells #[.bool d, .int .i64 s, .int .i64 (a : Int), .slice A1 m.length c1] 53)).cell? ⟨p, 3, none⟩ = some (.int .i64 (σ.sent : Int)) := blk_cell (blk_below hbl1 (below_alloc (Below.refl _ w1) _)) 3
 have x2 : (w1.alloc (.cells #[.bool d, .int .i64 s, .int .i64 (a : Int), .slice A1 m.length c1] 53)).cell? ⟨w1.heap.size, 2, none⟩ = some (.int .i64 (a : Int)) := blk_cell (blk_new w1 _) 2
 clear ho hb1 hbl1
 have hA2 : decide (σ.sent < a) = false := decide_eq_false (by omega)
 have HA := Aside0.mk hA
 clear hA n2 n3
 go_wp2_with fail
 go_region
 clear d3 x2
 go_wp2_with fail
 have HMID := Aside0.mk (mid0 H.out HBW.out HB1.out HBD.out d s (a : Int))
 have HG := Aside0.mk HB1.out.size
 clear HBD HB1
 generalize hu : (w1.alloc (.cells #[.bool d, .int .i64 s, .int .i64 (a : Int), .slice A1 m.length c1] 53)).drew = u at HMID ⊢
 clear hu
 obtain ⟨g, hg⟩ : ∃ g, g = w1.heap.size := ⟨_, rfl⟩
 rw [← hg] at HMID HG ⊢
 clear hg w1
 go_cut [7] from 28 to 34 (fun v7 wx => v7 = .int .i64 ((a : Int) - (σ.sure : Int)) ∧ Aside0 (Mid w wx B N S p g σ d s (a : Int) A1 c1 m))
 case first =>
  clear H
  obtain ⟨⟨S1, ⟨b, vq, vi, hq, hi, n, sz, f, hx⟩, hfr⟩, hblk, hbd, hge⟩ := HMID.out
  have f2 : u.cell? ⟨g, 2, none⟩ = some (.int .i64 a) := blk_cell hblk 2
  have p2 : u.cell? ⟨p, 2, none⟩ = some (.int .i64 (σ.sure : Int)) := blk_cell hx.blk 2
  have hwr : wrap64 ((a : Int) - (σ.sure : Int)) = (a : Int) - (σ.sure : Int) := by
   have := HI.out.1.tk; have := HI.out.1.s0; have := HI.out.1.s1; have := HI.out.2; have := HA.out
   unfold wrap64; omega
  clear hx hfr hblk hbd
  go_region
  all_goals go_wp2_with fail
  all_goals go_meet
  case rel => exact ⟨congrArg _ hwr, ⟨HMID.out.below (below_drew (Below.refl _ _))⟩⟩
 case rest =>
  obtain ⟨rfl, HM1⟩ := hcut
  clear HMID
  go_upto_if 36 with fail
  go_cut [] from 35 to 50 (fun wx => Aside0 (Mid w wx B N S p g { σ with sure := max σ.sure a } d s (a : Int) A1 c1 m))
  case first =>
   have hI2 := HI.out.1
   have hq3 := hI2.s3
   have hq1 := hI2.s1
   have htk := hI2.tk
   have hM2 := HI.out.2
   have hA := HA.out
   clear H
   obtain ⟨⟨S1, ⟨b, vq, vi, hq, hi, n, sz, f, hx⟩, hfr⟩, hblk, hbd, hge⟩ := HM1.out
   have hpg : p ≠ g := ne_frame hx hblk p hx.sp (.inl rfl)
   have f2 : wc.cell? ⟨g, 2, none⟩ = some (.int .i64 a) := blk_cell hblk 2
   have p2 : wc.cell? ⟨p, 2, none⟩ = some (.int .i64 (σ.sure : Int)) := blk_cell hx.blk 2
   by_cases has : (σ.sure : Int) < (a : Int)
   ·
    have hqn : hq.length = σ.took.length - σ.sure := by rw [hx.qb.1, List.length_drop]
    obtain ⟨A0, c0, rfl, hcap0⟩ := Kd.Q_slice hx.q
    have hdr := Kd.Q_drop (k := a - σ.sure) hx.q (by omega)
    rw [show (a - σ.sure) * kH.sz = a - σ.sure from Nat.mul_one _] at hdr
    have p1 : wc.cell? ⟨p, 1, none⟩ = some (.slice A0 hq.length c0) := blk_cell hx.blk 1
    have z1 : wc.frozen? ⟨p, 1, none⟩ = false := blk_frozen hx.blk 1
    have z2 : wc.frozen? ⟨p, 2, none⟩ = false := blk_frozen hx.blk 2
    have HX := Aside0.mk hx
    have HDR := Aside0.mk hdr
    have HFR := Aside0.mk hfr
    have HBK := Aside0.mk hblk
    have HBD := Aside0.mk hbd
    clear hx hdr hfr hblk hbd
    have hgt : (0 : Int) < (a : Int) - (σ.sure : Int) := by omega
    have hle : (a : Int) - (σ.sure : Int) ≤ (c0 : Int) := by omega
    have hle2 : (a : Int) - (σ.sure : Int) ≤ (hq.length : Int) := by omega
    have hsa : σ.sure ≤ a := by omega
    have HM9 := Aside0.mk (show max σ.sure a = a from Nat.max_eq_right hsa)
    clear hqn
    go_wp2_with fail
    go_region
    all_goals go_wp2_with fail
    all_goals go_meet
    all_goals (case rel =>
     rw [HM9.out]
     refine ⟨mid_ack HX.out HFR.out HBK.out HBD.out hge hsa _ ?_⟩
     have h9 := HDR.out
     first | (have e : c0 = a - σ.sure := (by omega); rw [if_pos e, show c0 - (a - σ.sure) = 0 by omega] at h9; exact h9) | (rw [if_neg (by omega)] at h9; exact h9))
   ·
    have hgt : ¬ (0 : Int) < (a : Int) - (σ.sure : Int) := by omega
    have HM9 := Aside0.mk (show max σ.sure a = σ.sure from Nat.max_eq_left (by omega))
    clear hx hfr hblk hbd f2 p2
    go_wp2_with fail
    all_goals go_meet
    case rel =>
     rw [HM9.out]
     exact HM1
  case rest =>
   have HM2 := hcut
   clear hcut HM1 HR HB HD H
   obtain ⟨σ1, hσ1⟩ : ∃ σ1, σ1 = { σ with sure := max σ.sure a } := ⟨_, rfl⟩
   have hI1 : Lp.Inv M σ1 := by
    rw [hσ1]
    have hI := HI.out.1
    have := HA.out
    have e0 := hI.s0
    have e1 := hI.s2
    have e2 := hI.s3
    have e3 : σ.sure ≤ max σ.sure a := Nat.le_max_left _ _
    refine ⟨hI.w0, hI.w1, Nat.max_le.2 ⟨e0, by show a ≤ σ.sent; omega⟩, hI.s1, ?_, ?_, hI.tk, hI.tl, hI.al, hI.ht, hI.ha, hI.hh⟩
    ·
     show σ.sent ≤ max _ _ + σ.window; omega
    ·
     show σ.took.length ≤ max _ _ + 64; omega
   have hR1 : R = if d = false then (0, σ1) else (0, { σ1 with owes := true, hold := (pull 17 (takeH σ1 s m) σ1.all).1, all := (pull 17 (takeH σ1 s m) σ1.all).2 }) := by rw [HRR.out, hσ1]; rfl
   have HR1 := Aside0.mk hR1
   have HI1 := Aside0.mk hI1
   rw [← hσ1] at HM2
   have HM9 := Aside0.mk HI.out.2
   clear hσ1 HRR HA hR1 hI1 HI hA2
   have d0 : wc.cell? ⟨g, 0, none⟩ = some (.bool d) := blk_cell HM2.out.fr 0
   cases d with
   | false =>
    go_wp2_with fail
    go_ret
    rw [HR1.out]
    obtain ⟨S1, h1, h2⟩ := HM2.out.lp
    exact ⟨rfl, S1, LP.monoN h1 (Nat.le_succ _), h2⟩
   | true =>
    have p7 : wc.cell? ⟨p, 7, none⟩ = some (.bool σ1.owes) := by obtain ⟨S1, ⟨b, vq, vi, hq, hi, n, sz, f, hx⟩, _⟩ := HM2.out.lp; exact blk_cell hx.blk 7
    have z7 : wc.frozen? ⟨p, 7, none⟩ = false := by obtain ⟨S1, ⟨b, vq, vi, hq, hi, n, sz, f, hx⟩, _⟩ := HM2.out.lp; exact blk_frozen hx.blk 7
    go_wp2_with fail
    obtain ⟨σ2, hσ2⟩ : ∃ σ2, σ2 = { σ1 with owes := true } := ⟨_, rfl⟩
    have HM3 := Aside0.mk (mid_owes HM2.out)
    rw [← hσ2] at HM3
    have hI2 : Lp.Inv M σ2 := by rw [hσ2]; have hI := HI1.out; exact ⟨hI.w0, hI.w1, hI.s0, hI.s1, hI.s2, hI.s3, hI.tk, hI.tl, hI.al, hI.ht, hI.ha, hI.hh⟩
    have hR2 : R = (0, { σ2 with hold := (pull 17 (takeH σ2 s m) σ2.all).1, all := (pull 17 (takeH σ2 s m) σ2.all).2 }) := by rw [HR1.out, if_neg (by simp), hσ2]; rfl
    have HR2 := Aside0.mk hR2
    have HI2 := Aside0.mk hI2
    clear HM2 d0 p7 z7 hσ2 HR1 HI1 hR2 hI2
    generalize hu2 : wc.setCell ⟨p, 7, none⟩ (.bool true) = u2 at HM3 ⊢
    clear hu2
    obtain ⟨⟨S1, ⟨b, vq, vi, hq, hi, n, sz, f, hx⟩, hfr⟩, hblk, hbd, hge⟩ := HM3.out
    have HX := Aside0.mk hx
    have HFR := Aside0.mk hfr
    have HBK := Aside0.mk hblk
    have HBD := Aside0.mk hbd
    have hs64 : I64 s := I64.mk (by have := HN.out.1; omega) (by have := HN.out.2; omega)
    have hlk := run_look_ok law Try.underlying3 Try.underlying80 (zero30 u2.drew) (hx.m.below (below_drew (Below.refl _ u2))) s hs64
    have p6 : u2.cell? ⟨p, 6, none⟩ = some (.map (some b)) := blk_cell hx.blk 6
    have g1 : u2.cell? ⟨g, 1, none⟩ = some (.int .i64 s) := blk_cell hblk 1
    clear hx hfr hblk hbd
    obtain ⟨vv, hvv⟩ : ∃ vv, vv = (f s).getD (.slice none 0 0) := ⟨_, rfl⟩
    obtain ⟨iss, hiss⟩ : ∃ iss, iss = (f s).isSome := ⟨_, rfl⟩
    rw [← hvv, ← hiss] at hlk
    have HIS := Aside0.mk hiss
    clear hvv hiss
    go_region
    all_goals go_wp2_with fail
    have HX3 := Aside0.mk (LPx.below HX.out (below_drew (Below.refl _ u2)))
    have HM4 := Aside0.mk (HM3.out.below (below_drew (Below.refl _ u2)))
    have HBU := Aside0.mk (show B ≤ u2.heap.size by have := HX.out.ge p HX.out.sp; have := blk_lt HX.out.blk; omega)
    have HFR3 := Aside0.mk (FrL.below HFR.out (below_drew (Below.refl _ u2)) HBU.out)
    have HBK3 := Aside0.mk (blk_below HBK.out (below_drew (Below.refl _ u2)))
    have HBD3 := Aside0.mk (HBD.out.keep (Keep5.below (below_drew (Below.refl _ u2))))
    clear hlk p6 g1 HM3 HX HFR HBK HBD HBU
    generalize hu3 : u2.drew = u3 at HX3 HM4 HFR3 HBK3 HBD3 ⊢
    clear hu3 u2 hs64
    obtain ⟨tk, htk⟩ : ∃ tk : Bool, tk = decide ((σ2.hold s).isSome = false ∧ (σ2.all.length : Int) ≤ s ∧ s < (σ2.all.length : Int) + 16) := ⟨_, rfl⟩
    have HTK := Aside0.mk htk
    clear htk
    go_cut [87] from 67 to 86 (fun v87 wx => v87 = .bool tk ∧ Aside0 (Below u3.heap.size u3 wx))
    case first =>
     have hs64 : I64 s := I64.mk (by have := HN.out.1; omega) (by have := HN.out.2; omega)
     have hmf := HX3.out.mf s hs64
     have hal := HI2.out.al
     have hblk := HM4.out.fr
     have p5 : u3.cell? ⟨p, 5, none⟩ = some (.int .i64 (σ2.all.length : Int)) := blk_cell HX3.out.blk 5
     have g1 : u3.cell? ⟨g, 1, none⟩ = some (.int .i64 s) := blk_cell hblk 1
     have hw16 : wrap64 ((σ2.all.length : Int) + 16) = (σ2.all.length : Int) + 16 := by have := HM9.out; unfold wrap64; omega
     have htk := HTK.out
     clear hblk
     cases hh : σ2.hold s with
     | some l' =>
      rw [hh] at hmf htk
      obtain ⟨v', hv', _⟩ := hmf
      have hi0 : iss = true := by rw [HIS.out, hv']; rfl
      have ht0 : tk = false := by rw [htk]; exact decide_eq_false (fun e => by cases e.1)
      subst hi0 ht0
      clear hh hal htk hs64 HTK HIS
      go_quiet (fail)
      go_wp2_with fail
      all_goals go_meet
      case rel => exact ⟨rfl, ⟨pw_below_drewN (Below.refl _ _) _⟩⟩
     | none =>
      rw [hh] at hmf htk
      have hi0 : iss = false := by rw [HIS.out, hmf]; rfl
      subst hi0
      by_cases hgs : (σ2.all.length : Int) ≤ s
      ·
       have hgd1 : decide ((σ2.all.length : Int) ≤ s) = true := decide_eq_true hgs
       by_cases hlt : s < (σ2.all.length : Int) + 16
       ·
        have hgd2 : decide (s < (σ2.all.length : Int) + 16) = true := decide_eq_true hlt
        have ht0 : tk = true := by rw [htk]; exact decide_eq_true ⟨rfl, hgs, hlt⟩
        subst ht0
        clear hgs hlt hh hmf hal htk HTK HIS hs64
        go_quiet (fail)
        go_wp2_with fail
        all_goals go_meet
        case rel => exact ⟨rfl, ⟨pw_below_drewN (Below.refl _ _) _⟩⟩
       ·
        have hgd2 : decide (s < (σ2.all.length : Int) + 16) = false := decide_eq_false hlt
        have ht0 : tk = false := by rw [htk]; exact decide_eq_false (fun e => hlt e.2.2)
        subst ht0
        clear hgs hlt hh hmf hal htk HTK HIS hs64
        go_quiet (fail)
        go_wp2_with fail
        all_goals go_meet
        case rel => exact ⟨rfl, ⟨pw_below_drewN (Below.refl _ _) _⟩⟩
      ·
       have hgd1 : decide ((σ2.all.length : Int) ≤ s) = false := decide_eq_false hgs
       have ht0 : tk = false := by rw [htk]; exact decide_eq_false (fun e => hgs e.2.1)
       subst ht0
       clear hgs hh hmf hal htk HTK HIS hs64
       go_quiet (fail)
       go_wp2_with fail
       all_goals go_meet
       case rel => exact ⟨rfl, ⟨pw_below_drewN (Below.refl _ _) _⟩⟩
    case rest =>
     obtain ⟨rfl, HB4⟩ := hcut
     have HX4 := Aside0.mk (LPx.below HX3.out HB4.out)
     have HBU := Aside0.mk (show B ≤ u3.heap.size by have := HX3.out.ge p HX3.out.sp; have := blk_lt HX3.out.blk; omega)
     have HFR4 := Aside0.mk (FrL.below HFR3.out HB4.out HBU.out)
     have HBK4 := Aside0.mk (blk_below HBK3.out HB4.out)
     have HBD4 := Aside0.mk (HBD3.out.keep (Keep5.below HB4.out))
     clear HB4 HX3 HFR3 HBK3 HBD3 HM4 HBU HIS
     go_upto_if 87 with fail
     go_cut [] from 88 to 95 (fun wx => Aside0 (Mid w wx B (N + 1) S p g { σ2 with hold := takeH σ2 s m } true s (a : Int) A1 c1 m))
     case first =>
      cases tk with
      | false =>
       have hc : takeH σ2 s m = σ2.hold := if_neg (of_decide_eq_false HTK.out.symm)
       go_wp2_with fail
       all_goals go_meet
       case rel =>
        rw [hc]
        exact ⟨⟨⟨_, LP.monoN ⟨b, vq, vi, hq, hi, n, sz, f, HX4.out⟩ (Nat.le_succ _), HFR4.out⟩, HBK4.out, HBD4.out, hge⟩⟩
      | true =>
       have hc : takeH σ2 s m = setH σ2.hold s (some m) := if_pos (of_decide_eq_true HTK.out.symm)
       have HC := Aside0.mk hc
       have hs64 : I64 s := I64.mk (by have := HN.out.1; omega) (by have := HN.out.2; omega)
       have hb4 : Below wc.heap.size wc wc.drew := below_drew (Below.refl _ wc)
       have hx5 := LPx.below HX4.out hb4
       have HX5 := Aside0.mk hx5
       obtain ⟨w6, hrun6, hm6, hg6⟩ := Mq.run_store law Try.underlying3 Try.underlying80 hx5.m (Nat.lt_of_le_of_lt hx5.mn hNm) s (.slice A1 m.length c1) hs64
       have HM6 := Aside0.mk hm6
       have HG6 := Aside0.mk hg6
       have hblk := HBK4.out
       have p6 : wc.cell? ⟨p, 6, none⟩ = some (.map (some b)) := blk_cell HX4.out.blk 6
       have g1 : wc.cell? ⟨g, 1, none⟩ = some (.int .i64 s) := blk_cell hblk 1
       have g3 : wc.cell? ⟨g, 3, none⟩ = some (.slice A1 m.length c1) := blk_cell hblk 3
       clear hblk hx5 hm6 hg6 hc
       go_wp2_with fail
       go_region
       all_goals go_wp2_with fail
       all_goals go_meet
       case rel =>
        rw [HC.out]
        exact ⟨mid_store HX5.out (FrL.below HFR4.out hb4 (by have := HX4.out.ge p HX4.out.sp; have := blk_lt HX4.out.blk; omega)) (blk_below HBK4.out hb4) (HBD4.out.keep (Keep5.below hb4)) hge HM6.out HG6.out⟩
     case rest =>
      obtain ⟨σ3, hσ3⟩ : ∃ σ3, σ3 = { σ2 with hold := takeH σ2 s m } := ⟨_, rfl⟩
      have hhw : HW σ3.hold σ3.all ((σ3.all.length : Int) + 16) := by rw [hσ3]; exact takeH_ok HI2.out HOK.out
      have hal := HI2.out.al
      have htl := HI2.out.tl
      have e1 : σ3.all = σ2.all := by rw [hσ3]
      have e2 : σ3.told = σ2.told := by rw [hσ3]
      have hR3 : R = (0, { σ3 with hold := (pull 17 σ3.hold σ3.all).1, all := (pull 17 σ3.hold σ3.all).2 }) := by rw [HR2.out, hσ3]
      rw [← e1] at hal htl
      rw [← e2] at htl
      rw [← hσ3] at hcut
      have HHW := Aside0.mk hhw
      have HR3 := Aside0.mk hR3
      have HAL := Aside0.mk (show σ3.all.length + 16 ≤ 17000016 by have := HM9.out; omega)
      have HTL := Aside0.mk htl
      clear hσ3 hhw hal htl e1 e2 hR3 HR2 HI2 HTK HX4 HFR4 HBK4 HBD4 HN HOK
      obtain ⟨⟨S3, ⟨b3, vq3, vi3, hq3, hi3, n3, sz3, f3, hx⟩, hfr⟩, _, _, _⟩ := hcut.out
      have hb64 : I64 (σ3.all.length : Int) := I64.mk (by omega) (by have := HAL.out; omega)
      have p6 : wc.cell? ⟨p, 6, none⟩ = some (.map (some b3)) := blk_cell hx.blk 6
      have p5 : wc.cell? ⟨p, 5, none⟩ = some (.int .i64 (σ3.all.length : Int)) := blk_cell hx.blk 5
      have hlk := run_look_ok law Try.underlying3 Try.underlying80 (zero30 wc.drew) (hx.m.below (below_drew (Below.refl _ wc))) (σ3.all.length : Int) hb64
      have HL0 := Aside0.mk (lp_start hx hfr hb64 HHW.out HTL.out)
      obtain ⟨v10, hv10⟩ : ∃ v10, v10 = (f3 (σ3.all.length : Int)).getD (.slice none 0 0) := ⟨_, rfl⟩
      obtain ⟨v11, hv11⟩ : ∃ v11, v11 = (f3 (σ3.all.length : Int)).isSome := ⟨_, rfl⟩
      rw [← hv10, ← hv11] at hlk HL0
      clear hv10 hv11 hx hfr hcut
      go_wp2_with fail
      go_region
      clear p5 p6 hlk
      go_wp2_with fail
      go_loopw [10, 11] (fun u10 u11 wr => ∃ (v : Value) (is : Bool) (k : Nat) (h : Int → Option (List Int)) (al : List (List Int)), u10 = v ∧ u11 = .bool is ∧ Aside0 (LpR w wr B (N + 1) S p σ3 v is k h al)) (fun _ _ wr => (σ3.all.length + 16) - (intOf ((wr.cell? ⟨p, 5, none⟩).getD undef)).toNat)
      case atStart => exact ⟨_, _, _, _, _, rfl, rfl, HL0⟩
      case round =>
       obtain ⟨v, is, k, h, al, rfl, rfl, HL⟩ := hrel
       cases he : h (al.length : Int) with
       | none =>
        have his : is = false := by rw [HL.out.is', he]; rfl
        subst his
        have HE := Aside0.mk he
        clear he
        go_wp2_with fail
        go_ret
        obtain ⟨S4, h1, h2⟩ := HL.out.lp
        rw [HR3.out]
        refine ⟨rfl, S4, ?_, h2⟩
        rw [← HL.out.pl, pull_none k HE.out]
        exact h1
       | some l' =>
        have his : is = true := by rw [HL.out.is', he]; rfl
        subst his
        obtain ⟨A4, c4, rfl, hbd4⟩ := HL.out.v' l' he
        obtain ⟨S4, ⟨b4, vq4, vi4, hq4, hi4, n4, sz4, f4, hx⟩, hfr⟩ := HL.out.lp
        have hle : al.length < σ3.all.length + 16 := by have := (HL.out.hw.1 _ _ he).2.1; omega
        have hb64 : I64 (al.length : Int) := I64.mk (by omega) (by have := HAL.out; omega)
        have hb65 : I64 (((al.length + 1 : Nat) : Nat) : Int) := I64.mk (by omega) (by have := HAL.out; omega)
        have hxd := LPx.below hx (below_drew (Below.refl _ wr))
        obtain ⟨w6, hrun, hm6, hg6⟩ := run_delete law Try.underlying3 Try.underlying80 hxd.m (al.length : Int) hb64
        obtain ⟨hx6, hf6⟩ := map_end hxd (al.length : Int) none none hm6 hg6 hxd.mn rfl
        have p6 : wr.cell? ⟨p, 6, none⟩ = some (.map (some b4)) := blk_cell hx.blk 6
        have p5 : wr.cell? ⟨p, 5, none⟩ = some (.int .i64 (al.length : Int)) := blk_cell hx.blk 5
        have HBW4 := Aside0.mk (show B ≤ wr.heap.size by have := hx.ge p hx.sp; have := blk_lt hx.blk; omega)
        have HF6 := Aside0.mk (FrL.trans (FrL.below hfr (below_drew (Below.refl _ wr)) HBW4.out) hf6)
        have HX6 := Aside0.mk hx6
        have HBD6 := Aside0.mk ((hbd4.keep (Keep5.below (below_drew (Below.refl _ wr)))).keep hf6.k5)
        have HE := Aside0.mk he
        have HP5 := Aside0.mk p5
        have HB65 := Aside0.mk hb65
        have HLE := Aside0.mk hle
        clear he hbd4 hx hfr hxd hm6 hg6 hx6 hf6 hb64 hb65 hle
        go_wp2_with fail
        go_region
        clear p5 p6 hrun
        have p4 : w6.cell? ⟨p, 4, none⟩ = some vi4 := blk_cell HX6.out.blk 4
        have HTL4 := Aside0.mk HL.out.tl
        have HLN4 := Aside0.mk (show (hi4.length + 1) * 24 ≤ 140737488355328 by
         have e1 := HX6.out.ib.1
         rw [List.length_drop] at e1
         have e2 : ({ σ3 with hold := setH h (al.length : Int) none, all := al } : Lk).all.length = al.length := rfl
         have e3 := HLE.out
         have e4 := HAL.out
         change hi4.length = al.length - _ at e1
         omega)
        have hw1 : wrap64 ((al.length : Int) + 1) = (al.length : Int) + 1 := by have := HLE.out; have := HAL.out; unfold wrap64; omega
        go_wp2_with ((with_reducible refine gate_builtin (b := .append) (xs := #[.tmp 133, .tmp 135]) rfl ?_); at_builtin; refine Kd.Q_append kH (w0 := w6) B rfl (.tmp 133) (.tmp 135) 44 30 (.slice none 0 0) 24 rfl Try.underlying44 info30 rfl (by decide) (by omega) vi4 hi4 ⟨A4, l'.length, c4⟩ [encH ⟨A4, l'.length, c4⟩] (fun k => some k = vi4.ownBlock ∨ w6.heap.size ≤ k) (fun _ => False) rfl rfl rfl (fun _ hk => hk.elim) (fun k hk => .inr hk) (Kd.Q_mono HX6.out.i (fun k hk => .inl hk)) (Below.refl _ _) ?aZ HLN4.out ?_; (case aZ => exact (by have := HX6.out.ge p HX6.out.sp; have := blk_lt HX6.out.blk; omega)); intro v9 w9 hq9 _ hg9 hat9; obtain ⟨A9, c9, rfl, _⟩ := Kd.Q_slice hq9; have HGE := Aside0.mk (got_end HX6.out (x := ⟨A4, l'.length, c4⟩) (l := l') HBD6.out HTL4.out hq9 hg9 hat9); have hblk9 := (hg9.block p (blk_lt HX6.out.blk) (fun e => LPx.ni HX6.out e.symm)).trans HX6.out.blk; have d4 : w9.cell? ⟨p, 4, none⟩ = some vi4 := blk_cell hblk9 4; have z4 : w9.frozen? ⟨p, 4, none⟩ = false := blk_frozen hblk9 4; have p5 : w9.cell? ⟨p, 5, none⟩ = some (.int .i64 (al.length : Int)) := blk_cell hblk9 5; have z5 : w9.frozen? ⟨p, 5, none⟩ = false := blk_frozen hblk9 5; clear hq9 hg9 hat9 hblk9 p4)
        clear d4 z4 p5 z5
        have HGF := Aside0.mk (show _ ∧ _ from HGE.out)
        rw [show (hi4 ++ [(⟨A4, l'.length, c4⟩ : Hd)]).length = hi4.length + 1 by simp] at HGF
        rw [show ((({ σ3 with hold := setH h (al.length : Int) none, all := al } : Lk).all.length + 1 : Nat) : Int) = (al.length : Int) + 1 from rfl] at HGF
        clear HGE
        generalize hu5 : (w9.setCell ⟨p, 4, none⟩ (.slice A9 (hi4.length + 1) c9)).setCell ⟨p, 5, none⟩ (.int .i64 ((al.length : Int) + 1)) = u5 at HGF ⊢
        clear hu5
        obtain ⟨hx7, hf7⟩ := HGF.out
        have HL7 := Aside0.mk (lpr_next HL.out HE.out hx7 (FrL.trans HF6.out hf7) HB65.out)
        have hb65 := HB65.out
        have hlk := run_look_ok law Try.underlying3 Try.underlying80 (zero30 u5.drew) (hx7.m.below (below_drew (Below.refl _ u5))) ((al.length + 1 : Nat) : Int) hb65
        rw [show (((al.length + 1 : Nat) : Nat) : Int) = (al.length : Int) + 1 from rfl] at hlk HL7
        have p6 : u5.cell? ⟨p, 6, none⟩ = some (.map (some b4)) := blk_cell hx7.blk 6
        have p5 : u5.cell? ⟨p, 5, none⟩ = some (.int .i64 ((al.length : Int) + 1)) := by
         have e : u5.cell? ⟨p, 5, none⟩ = some (.int .i64 ((al ++ [l']).length : Int)) := blk_cell hx7.blk 5
         rw [e]; simp
        obtain ⟨f5, hf5⟩ : ∃ f5, f5 = Mp.upd f4 (al.length : Int) none := ⟨_, rfl⟩
        rw [← hf5] at hlk HL7
        obtain ⟨v5, hv5⟩ : ∃ v, v = (f5 ((al.length : Int) + 1)).getD (.slice none 0 0) := ⟨_, rfl⟩
        obtain ⟨b5, hb5⟩ : ∃ v, v = (f5 ((al.length : Int) + 1)).isSome := ⟨_, rfl⟩
        rw [← hv5, ← hb5] at hlk HL7
        have HP7 := Aside0.mk p5
        clear hf5 hv5 hb5 hx7 hf7 hb65
        go_region
        clear p5 p6 hlk
        go_wp2_with fail
        go_roundw
        case rel =>
         obtain ⟨k', hk'⟩ := HL7.out
         exact ⟨_, _, _, _, _, rfl, rfl, ⟨hk'⟩⟩
        case measure =>
         have h5 := HP5.out
         have h7 : u5.drew.cell? ⟨p, 5, none⟩ = some (.int .i64 ((al.length : Int) + 1)) := HP7.out
         have hl := HLE.out
         rw [h5, h7]
         simp only [Option.getD_some, intOf]
         omega
/-- In, whatever comes. -/
theorem in_calls (h : LP w B N S p σ) {M : Nat} (hI : Inv M σ) (hM : M ≤ 1000000) (hNm : N < maxLen) (A : Option Addr) (c : Nat) (l : List Int) (hr : Kd.C (Kd.int .u8) w A l.length l) (hc : l.length ≤ c) (hl : l.length ≤ 140737488351232) (hb : ∀ x ∈ l, 0 ≤ x ∧ x < 256) :
  Calls Try.prog 22 #[.pointer (some ⟨p, 0, none⟩), .slice A l.length c] w fun e w' => e = .returned (.int .i64 (inL σ l).1) ∧ ∃ S', LP w' B (N + 1) S' p (inL σ l).2 ∧ FrL B S S' w w' := by
 by_cases hE : (decA l).2 ≠ 0 ∨ (decA l).1.2.2.1 > (σ.sent : Int)
 ·
  refine (in_no h A c l hr hc hl hb hE).mono ?_
  rintro e w' ⟨rfl, hbel⟩
  have e1 : inL σ l = (14, σ) := by unfold inL; rw [if_pos hE]
  rw [e1]
  have hB : B ≤ w.heap.size := by obtain ⟨b, vq, vi, hq, hi, n, sz, f, hx⟩ := h; have := hx.ge p hx.sp; have := blk_lt hx.blk; omega
  exact ⟨rfl, S, LP.monoN (LP.below h hbel) (Nat.le_succ _), FrL.below (FrL.refl B S w) hbel hB⟩
 ·
  have h1 : (decA l).2 = 0 := by
   rcases Classical.em ((decA l).2 = 0) with h | h
   ·
    exact h
   ·
    exact absurd (.inl h) hE
  exact in_yes h hI hM hNm A c l hr hc hl hb h1 (by omega)
end Go.Proofs.Ytekakngojhnleaa.Le
/- A range over a function whose iterator writes cells between its rounds (link.due counts in the end itself): the statement's law, for a body that never leaves the loop. -/
namespace Go.Proofs.Ytekakngojhnleaa.Rg
open Go.RowKit Go.Shelf
set_option linter.unusedVariables false
variable {n : Nat} {P : Program}

/-- What a round that goes on gives. -/
def roundEnd {α : Type} (B : Nat) (I : α → World → Prop) (s : α) (W : World) : Exit → Act → World → Prop
 | .normal, _, W' => KeepsFrom B W W' ∧ I s W'
 | .ret, _, _ => False
 | .exit _, _, _ => False
 | .goto _, _, _ => False
 | .panic _, _, _ => False
 | .outgrown, _, _ => False
/-- The iterator's part, at a state s0 and at an end s1: J may be turned by the iterator itself, so long as it keeps the caller's I and turns no block of the loop's own. -/
def Iterates {α : Type} (n B : Nat) (P : Program) (gf : Nat) (lb : Array Value) (encs : Int → Array Value) (may : α → Int → Prop) (nx : α → Int → α) (I : α → World → Prop) (s0 s1 : α) (w : World) : Prop :=
 ∀ (l : Nat) (J : α → World → Prop) (W : World), B ≤ W.heap.size → (∀ s A, J s A → I s A) → (∀ s t A C, J s A → I t C → KeepsFrom B A C → J t C) →
  (∀ s x A, J s A → may s x → YieldAt Fence.wide (n - 1) P l (encs x) A fun e A' => e = .returned (.bool true) ∧ J (nx s x) A') → J s0 W →
  CallsIn Fence.wide n P gf (#[.func (.yield l) #[] #[]] ++ lb) W fun e W' => (∃ v, e = .returned v) ∧ J s1 W'
theorem range_of {α : Type} {g : Operand} {ps : Array Tmp} {assign body : Code} {Q : Exit → Act → World → Prop} {a : Act} {w : World}
  (h1 : 1 ≤ n) {gf : Nat} {lb : Array Value} (hg : a.eval g = .func (.func gf) #[] lb) (eg : ∀ args w, (callFunc gf args).run P w = .ok (.enter gf args) w)
  {encs : Int → Array Value} {may : α → Int → Prop} {nx : α → Int → α} (I : α → World → Prop) {s0 s1 : α} (hps : ∀ x, (encs x).size = ps.size)
  (hit : Iterates (n - 1) w.heap.size P gf lb encs may nx I s0 s1 w) (hI : OwnFrom w.heap.size I) (h0 : I s0 w) (a₁ : Int → Act)
  (hassign : ∀ (l : Nat) (x : Int) (W : World) (K : Act → World → Prop), K (a₁ x) W →
   assign.wpIn (Fence.wide.inRound l) (n - 1 - 1) P (Exit.then K (fun _ _ _ => False)) { tmps := (ps.zip (encs x)).foldl (fun t (p, v) => t.setIfInBounds p v) a.tmps, defers := [] } W)
  (hbody : ∀ (l : Nat) (s : α) (x : Int) (W : World), I s W → may s x → body.wpIn (Fence.wide.inRound l) (n - 1 - 1) P (roundEnd w.heap.size I (nx s x) W) (a₁ x) W)
  (hdone : ∀ (D : Nat) (W : World), w.heap.size ≤ D → I s1 W → W.heap[D]? = some (.deferred (some [])) → Q .normal { a with defers := { target := .collected D, args := #[] } :: a.defers } W) :
  (Code.rangeFunc g ps assign body).wpIn Fence.wide n P Q a w := by
 refine wpIn_rangeFunc fun fn hfn => ?_
 -- the loop's record, in whatever state
 obtain ⟨R, hR⟩ : ∃ R : LoopState → Obj, R = fun st => .loop { state := st, pending := none, fn, tmps := a.tmps, params := ps, assign, body, defers := w.heap.size } := ⟨_, rfl⟩
 have hRc : ∀ st, (R st).isCells = false := fun st => by rw [hR]; rfl
 have hsz : ((w.alloc (.deferred (some []))).alloc (R .ready)).heap.size = w.heap.size + 2 := by simp
 have hL : ((w.alloc (.deferred (some []))).alloc (R .ready)).heap[w.heap.size + 1]? = some (R .ready) := by
  have := World.alloc_heap_new (w.alloc (.deferred (some []))) (R .ready)
  rwa [World.size_alloc] at this
 have hD : ((w.alloc (.deferred (some []))).alloc (R .ready)).heap[w.heap.size]? = some (.deferred (some [])) :=
  (Below.heap_alloc _ _ _ (by simp)).trans (World.alloc_heap_new w _)
 have hI0 : I s0 ((w.alloc (.deferred (some []))).alloc (R .ready)) := hI.alloc _ (hI.alloc _ h0)
 have hrun := run_enterLoop_outer (P := P) (w := w) fn a.tmps ps assign body
 rw [show (Obj.loop { state := .ready, pending := none, fn := fn, tmps := a.tmps, params := ps, assign := assign, body := body, defers := w.heap.size }) = R .ready by rw [hR]] at hrun
 generalize (w.alloc (.deferred (some []))).alloc (R .ready) = W0 at hrun hsz hL hD hI0
 refine ⟨w.heap.size + 1, [{ target := .collected w.heap.size, args := #[] }], W0, { target := .fn (.func gf) lb, args := #[.func (.yield (w.heap.size + 1)) #[] #[]] }, W0, gf, #[.func (.yield (w.heap.size + 1)) #[] #[]] ++ lb, W0, hrun, ?_, fun _ _ => trivial, ?_, fun _ => h1, ?_⟩
 ·
  simp only [resolve, hg]
  simp [go_sem]
 ·
  simp [invoke, go_sem, eg]
 -- what holds between two rounds
 refine (hit (w.heap.size + 1) (fun s A => I s A ∧ A.heap[w.heap.size + 1]? = some (R .ready) ∧ A.heap[w.heap.size]? = some (.deferred (some []))) W0 (by omega) (fun s A hA => hA.1)
  (fun s t A C hA hC hk => ⟨hC, hk.same _ _ (by omega) hA.2.1 (hRc _), hk.same _ _ (Nat.le_refl _) hA.2.2 rfl⟩) ?_ ⟨hI0, hL, hD⟩).mono ?_
 ·
  rintro s x A ⟨hi, hl, hd⟩ hmay
  have hl1 := hl
  rw [hR] at hl1
  have hy := run_yield (P := P) (args := encs x) hl1 (hps x)
  refine ⟨fn, _, assign, body, hy, roundIn_of_wpIn hfn (hassign _ x A _ ⟨_, run_beginRound hl1 rfl, ?_⟩)⟩
  have hlt : w.heap.size + 1 < A.heap.size := (Array.getElem?_eq_some_iff.1 hl).1
  have hbusy : (A.putObj (w.heap.size + 1) (R .busy)).heap[w.heap.size + 1]? = some (R .busy) := World.putObj_heap_same hlt
  have hd2 : (A.putObj (w.heap.size + 1) (R .busy)).heap[w.heap.size]? = some (.deferred (some [])) := (World.putObj_heap_other (by omega)).trans hd
  have hi2 : I s (A.putObj (w.heap.size + 1) (R .busy)) := hI.putObj _ hi (by omega) hl (hRc _)
  have hw := hbody (w.heap.size + 1) s x _ hi2 hmay
  rw [hR] at hw hbusy hd2
  refine wpIn_mono hw ?_
  rintro e a3 W3 hp
  cases e with
  | normal =>
   obtain ⟨hk3, hi3⟩ := hp
   have hl3 := hk3.same _ _ (by omega) hbusy rfl
   have hd3 := hk3.same _ _ (Nat.le_refl _) hd2 rfl
   refine ⟨_, _, run_endRound none hl3, rfl, hI.putObj _ hi3 (by omega) hl3 rfl, ?_, (World.putObj_heap_other (by omega)).trans hd3⟩
   rw [World.putObj_heap_same (Array.getElem?_eq_some_iff.1 hl3).1, hR]
   rfl
  | ret => exact hp.elim
  | exit id => exact hp.elim
  | goto t => exact hp.elim
  | panic ch => exact hp.elim
  | outgrown => exact hp.elim
 ·
  rintro e W2 ⟨⟨v, rfl⟩, hi, hl, hd⟩
  have hl1 := hl
  rw [hR] at hl1
  exact ⟨none, _, run_endLoop hl1 (by simp), hdone _ _ (Nat.le_refl _) (hI.putObj _ hi (by omega) hl (hRc _)) ((World.putObj_heap_other (by omega)).trans hd)⟩
/-! ### A region that draws its order, in a round: by the plain walk's steps -/
open Go.Proofs.YtekakngojhnleaaW.PrintWords Go.Proofs.YtekakngojhnleaaW.PrintLast
variable {l : Nat} {ops : Array Oper} {Q : Exit → Act → World → Prop}
theorem rows_round {row : String} {args : Array Value} {w : World} {R : Value → World → Prop} (h : Rows P row args w R) : RowsIn (Fence.wide.inRound l) n P row args w R := fun c cs _ => by
 obtain ⟨v, w', r, s⟩ := h c cs
 exact ⟨v, w', r, stepsIn_wide.2 s⟩
theorem op_round {o : Oper} {a : Act} {w : World} {K : Act → World → Prop} (hd : ∀ c, o.op ≠ .defer c) (h : o.wp P a w K Q) : o.wpIn (Fence.wide.inRound l) n P a w K Q := by
 refine ⟨fun _ _ => trivial, ?_⟩
 rw [Fence.inRound_round, Oper.semAt_some l a.eval o hd]
 unfold Oper.wp at h
 cases hr : (execOp a.eval o).run P w with
 | ok x w' =>
  rw [hr] at h
  cases x with
  | value v => exact h
  | skip => exact h
  | defer d => exact h
  | enter f args => exact ⟨(fun e => nomatch e), (callsIn_wide.2 h).inRound l⟩
  | row r args => exact ⟨(fun e => nomatch e), rows_round h⟩
  | _ => exact h.elim
 | halt x w' =>
  rw [hr] at h
  cases x with
  | panic v => exact h
  | _ => exact h.elim
theorem any_round {md : Region.Mode} (hd : ∀ o ∈ ops.toList, ∀ c, o.op ≠ .defer c) (hQ : ¬ LetsOut Q) : ∀ (fuel : Nat) (listed : Array Bool) (a : Act) (w : World), wpAny P md ops Q fuel listed a w → wpAnyIn (Fence.wide.inRound l) n P md ops Q fuel listed a w
 | 0, _, _, _, h => h
 | fuel + 1, listed, a, w, h => by
  refine ⟨h.1, fun i hi => ?_⟩
  have h2 := h.2 i hi
  unfold wpOp at h2
  unfold wpOpIn
  cases ho : ops[i]? with
  | none => rw [ho] at h2; exact any_round hd hQ fuel _ a w h2
  | some o =>
   rw [ho] at h2
   dsimp only at h2 ⊢
   have hdo : ∀ c, o.op ≠ .defer c := hd o (by rw [Array.mem_toList_iff]; exact Array.mem_of_getElem? ho)
   split at h2
   ·
    rename_i hw
    rw [if_pos hw]
    rcases h2 with h3 | h3
    ·
     exact Oper.wpIn_mono (fun a w h => any_round hd hQ fuel _ a w h) (op_round hdo h3)
    ·
     exact absurd h3.2 hQ
   ·
    rename_i hw
    rw [if_neg hw]
    exact ⟨fun _ _ => trivial, any_round hd hQ fuel _ _ w h2⟩
theorem region_round {id N : Nat} {a : Act} {w : World} {S : World → Prop} {ds : List Nat} (l0 : Array Bool) (hm : P.follows .mixedOrders = true) (hd : ∀ o ∈ ops.toList, ∀ c, o.op ≠ .defer c) (hQ : ¬ LetsOut Q) (hn : ops.size = N) (hl : Array.replicate N false = l0) (hS : S w.drew)
  (h : S w.drew → wpAnyLast P .any ops Q S ds N l0 a w.drew) : (Code.region id ops true).wpIn (Fence.wide.inRound l) n P Q a w := by
 subst hn
 subst hl
 exact wpIn_region_any hm (any_round hd hQ _ _ _ _ (wpAny_of_last _ _ _ _ (h hS)))
end Go.Proofs.Ytekakngojhnleaa.Rg
/- Links: Out of the program walked: a frame that is put to what goes out. -/
namespace Go.Proofs.Ytekakngojhnleaa.Ou
open Go.RowKit Go.Maps Go.Shelf Go.Proofs.Ytekakngojhnleaa.Mp Go.Proofs.Ytekakngojhnleaa.Mq Go.Proofs.Ytekakngojhnleaa.Lp Go.Proofs.Ytekakngojhnleaa.Lm Go.Proofs.Ytekakngojhnleaa.La Go.Proofs.Ytekakngojhnleaa.Lb Go.Proofs.Ytekakngojhnleaa.Lc Go.Proofs.Ytekakngojhnleaa.Ld Go.Proofs.Ytekakngojhnleaa.Le Go.Proofs.Ytekakngojhnleaa.En Go.Proofs.Ytekakngojhnleaa.Dw Go.Proofs.YtekakngojhnleaaW.PrintWords Go.Proofs.YtekakngojhnleaaW.PrintLast Go.Proofs.YtekakngojhnleaaW.PrintMore
set_option linter.unusedVariables false
set_option linter.unusedSimpArgs false
variable {w : World} {B N p : Nat} {S : Nat → Prop} {σ : Lk}

/-- What goes out: a variable in block o. -/
structure OVx (w : World) (Bo o : Nat) (fs : List (List Int)) (v : Value) (hs : List Hd) : Prop where
 box : w.heap[o]? = some (.cells #[v] 44 (0, 0))
 q : kH.Q 30 w Bo (fun k => some k = v.ownBlock) v hs
 b : Bods w Bo hs fs
def OV (w : World) (Bo o : Nat) (fs : List (List Int)) : Prop := ∃ v hs, OVx w Bo o fs v hs
theorem others_below {w w' : World} (h : Below w.heap.size w w') : KeepsOthers w w' := ⟨h.size, fun k o hk _ => (h.block k (blk_lt hk)).trans hk⟩
theorem OVx.below {w' : World} {Bo o : Nat} {fs : List (List Int)} {v : Value} {hs : List Hd} (h : OVx w Bo o fs v hs) (hb : Below w.heap.size w w') : OVx w' Bo o fs v hs :=
 ⟨blk_below h.box hb, Kd.Q_below h.q hb, h.b.keep (Keep5.below hb)⟩
theorem OV.below {w' : World} {Bo o : Nat} {fs : List (List Int)} (h : OV w Bo o fs) (hb : Below w.heap.size w w') : OV w' Bo o fs := by
 obtain ⟨v, hs, h⟩ := h; exact ⟨v, hs, h.below hb⟩
/-- What is turned: the variable o, and rows of headers. -/
def PutK (o : Nat) (w w' : World) : Prop := ∀ k, k < w.heap.size → k ≠ o → (∀ cs, w.heap[k]? ≠ some (.cells cs 30 (0, 0))) → w'.heap[k]? = w.heap[k]?
theorem PutK.block {o : Nat} {w w' : World} (h : PutK o w w') {k : Nat} {ob : Obj} (hk : w.heap[k]? = some ob) (hko : k ≠ o) (ht : ∀ cs, ob ≠ .cells cs 30 (0, 0)) : w'.heap[k]? = some ob := (h k (blk_lt hk) hko (fun cs e => ht cs (by rw [hk] at e; exact Option.some.inj e))).trans hk
theorem put_end {Bo o : Nat} {fs : List (List Int)} {v v9 : Value} {hs : List Hd} {w9 : World} (h : OVx w Bo o fs v hs) (ho : Bo ≤ o) {x : Hd} {l : List Int} (hx : Bd w Bo (encH x) l)
  (hq9 : kH.Q 30 w9 Bo (fun k => some k = v.ownBlock ∨ w.heap.size ≤ k) v9 (hs ++ [x])) (hg : w.grownBy w9 v.ownBlock) (hat : v9.ownBlock = v.ownBlock ∨ ∃ k, v9.ownBlock = some k ∧ w.heap.size ≤ k) :
  w9.heap[o]? = some (.cells #[v] 44 (0, 0)) ∧ OV (w9.setCell ⟨o, 0, none⟩ v9) Bo o (fs ++ [l]) ∧ Below Bo w (w9.setCell ⟨o, 0, none⟩ v9) ∧ KeepsOthers w (w9.setCell ⟨o, 0, none⟩ v9) ∧ Keep5 w (w9.setCell ⟨o, 0, none⟩ v9) ∧ PutK o w (w9.setCell ⟨o, 0, none⟩ v9) := by
 have hno : v.ownBlock ≠ some o := fun e => by
  obtain ⟨cs, hc⟩ := Kd.Q_typed h.q o e
  have := h.box
  rw [hc] at this
  cases this
 have hlt : o < w.heap.size := blk_lt h.box
 have hblk : w9.heap[o]? = some (.cells #[v] 44 (0, 0)) := (hg.block o hlt (fun e => hno e.symm)).trans h.box
 have hn9 : v9.ownBlock ≠ some o := fun e => by
  rcases hat with h1 | ⟨k, h1, h2⟩
  ·
   exact hno (by rw [← h1, e])
  ·
   rw [h1] at e; cases e; omega
 have k09 : Keep5 w w9 := Keep5.grown hg (fun k hk cs hc => by
  obtain ⟨cs', hc'⟩ := Kd.Q_typed h.q k hk
  rw [hc] at hc'
  cases hc')
 have k9 : Keep5 w9 (w9.setCell ⟨o, 0, none⟩ v9) := Keep5.set hblk (by decide)
 refine ⟨hblk, ⟨v9, hs ++ [x], ?_, Kd.Q_far (Kd.Q_tight rfl hq9) (fun k hk e => hn9 (by rw [← hk, e])) v9, ((h.b.keep k09).snoc (hx.keep k09)).keep k9⟩, ?_, ?_, k09.trans k9, fun k hlt' hko ht => ?_⟩
 ·
  rw [blk_put hblk 0 v9 rfl]; rfl
 ·
  exact (pw_below_grown (Below.refl Bo w) _ (by omega) hg (fun k hk => Kd.Q_base h.q k hk)).setCell ho v9
 ·
  exact (KeepsOthers.of_grownBy hg (fun j o' ej hj => by
   obtain ⟨cs, hc⟩ := Kd.Q_typed h.q j ej
   rw [hc] at hj; cases hj; rfl)).trans (KeepsOthers.setCell _ _ _)
 ·
  rw [Below.heap_setCell _ _ _ _ hko]
  exact hg.block k hlt' (fun e => by obtain ⟨cs, hc⟩ := Kd.Q_typed h.q k e.symm; exact ht cs hc)
set_option maxRecDepth 100000 in
set_option maxHeartbeats 1000000 in
theorem put_calls {Bo o : Nat} {fs : List (List Int)} (h : OV w Bo o fs) (ho : Bo ≤ o) (hf : fs.length ≤ 1000) (d : Bool) (s a : Nat) (A : Option Addr) (c : Nat) (l : List Int) (hr : Kd.C (Kd.int .u8) w A l.length l) (hc : l.length ≤ c)
  (hrt : Rt.rightB d s a l.length = true) (hs : s ≤ 1073741824) (ha : a ≤ 1073741824) (hl : l.length ≤ 1048576) (hb : ∀ x ∈ l, 0 ≤ x ∧ x < 256) :
  Calls Try.prog 52 #[.agg #[.bool d, .int .i64 (s : Int), .int .i64 (a : Int), .slice A l.length c], .pointer (some ⟨o, 0, none⟩)] w fun e w' => e = .returned (.tuple #[]) ∧ OV w' Bo o (fs ++ [frameL d s a l]) ∧ Below Bo w w' ∧ KeepsOthers w w' ∧ Keep5 w w' ∧ PutK o w w' := by
 obtain ⟨v, hs', hx⟩ := h
 have HX := Aside0.mk hx
 have HR := Aside0.mk hr
 have HRT := Aside0.mk hrt
 have HB := Aside0.mk hb
 have HLN := Aside0.mk (show (hs'.length + 1) * 24 ≤ 140737488355328 by have := hx.b.1; omega)
 have HBO := Aside0.mk (show Bo ≤ w.heap.size by have := blk_lt hx.box; omega)
 clear hx hr hrt hb
 go_enter Try.func52, Try.ntmps52
 go_wp2_with fail
 refine (encode_yes d s a A c l _ (Kd.C_alloc HR.out _) hc HRT.out hs ha hl HB.out).mono ?_
 rintro e w1 ⟨V, rfl, hr1, hb1⟩
 obtain ⟨A1, c1, rfl⟩ := Kd.R_slice hr1
 have hbw : Below w.heap.size w w1 := (below_alloc (Below.refl _ w) _).trans (hb1.mono (by rw [size_al]; omega))
 have HX1 := Aside0.mk (HX.out.below hbw)
 have HBD := Aside0.mk (show Bd w1 Bo (encH ⟨A1, (frameL d s a l).length, c1⟩) (frameL d s a l) from Bd.of hr1 (by rw [size_al]; have := HBO.out; omega))
 have HBW := Aside0.mk hbw
 have HBO1 := Aside0.mk (Nat.le_trans HBO.out hbw.size)
 have o0 : w1.cell? ⟨o, 0, none⟩ = some v := blk_cell HX1.out.box 0
 clear hr1 hb1 hbw
 obtain ⟨F, hF⟩ : ∃ F, F = frameL d s a l := ⟨_, rfl⟩
 rw [← hF] at HBD ⊢
 have HFF := Aside0.mk hF
 clear hF
 go_wp2_with ((with_reducible refine gate_builtin (b := .append) (xs := #[.tmp 10, .tmp 12]) rfl ?_); at_builtin; refine Kd.Q_append kH (w0 := w1) Bo rfl (.tmp 10) (.tmp 12) 44 30 (.slice none 0 0) 24 rfl Try.underlying44 info30 rfl (by decide) (by omega) v hs' ⟨A1, F.length, c1⟩ [encH ⟨A1, F.length, c1⟩] (fun k => some k = v.ownBlock ∨ w1.heap.size ≤ k) (fun _ => False) rfl rfl rfl (fun _ hk => hk.elim) (fun k hk => .inr hk) (Kd.Q_mono HX1.out.q (fun k hk => .inl hk)) (Below.refl _ _) HBO1.out HLN.out ?_; intro v9 w9 hq9 _ hg9 hat9; obtain ⟨A9, c9, rfl, _⟩ := Kd.Q_slice hq9; have HPE := Aside0.mk (put_end HX1.out ho HBD.out hq9 hg9 hat9); have q0 : w9.cell? ⟨o, 0, none⟩ = some v := blk_cell HPE.out.1 0; have q1 : w9.frozen? ⟨o, 0, none⟩ = false := blk_frozen HPE.out.1 0; clear hq9 hg9 hat9 o0)
 go_end0
 obtain ⟨_, e1, e2, e3, e4, e5⟩ := HPE.out
 rw [show (hs' ++ [(⟨A1, F.length, c1⟩ : Hd)]).length = hs'.length + 1 by simp] at e1 e2 e3 e4 e5
 rw [← HFF.out]
 refine ⟨rfl, e1, (HBW.out.mono HBO.out).trans e2, (others_below HBW.out).trans e3, (Keep5.below HBW.out).trans e4, fun k h1 h2 h3 => ?_⟩
 have e6 := HBW.out.block k h1
 exact (e5 k (Nat.lt_of_lt_of_le h1 HBW.out.size) h2 (fun cs => by rw [e6]; exact h3 cs)).trans e6
end Go.Proofs.Ytekakngojhnleaa.Ou
