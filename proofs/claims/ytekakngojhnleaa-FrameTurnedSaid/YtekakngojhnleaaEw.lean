/- FrameEncodes: the law's walk. -/
import Derived.Test.YtekakngojhnleaaEr
import Derived.Test.YtekakngojhnleaaOf
import Derived.Deep.RegionWith
namespace Go.Proofs.Ytekakngojhnleaa.Ew
set_option linter.unusedSimpArgs false
set_option linter.unusedVariables false
open Go.RowKit Go.Proofs.Ytekakngojhnleaa.Fns Go.Proofs.Ytekakngojhnleaa.Rd Go.Proofs.Ytekakngojhnleaa.Rt Go.Proofs.Ytekakngojhnleaa.Fs Go.Proofs.Ytekakngojhnleaa.Fp Go.Proofs.Ytekakngojhnleaa.En Go.Proofs.Ytekakngojhnleaa.Of Go.Proofs.YtekakngojhnleaaW.PrintWords Go.Proofs.YtekakngojhnleaaW.PrintLast Go.Proofs.YtekakngojhnleaaW.PrintMore

/-- What a callee has made, as a string, in every later world. -/
theorem as_string {w : World} {base : Nat} {ok : Nat → Prop} {v : Value} {r : List Int} (h : (Kd.int .u8).R 5 w base ok v r) (W : World) (hW : Below w.heap.size w W) : (convert 30 9 v).run Try.prog W = .ok (.string (strOfNums r)) W :=
  own_string (P := Try.prog) Try.underlying30 Try.underlying5 Try.underlying9 (Kd.own_of_R (Kd.R_below h hW))

/-- What Encode tells of a frame. -/
def encF (x : Fr) : List Int × Int := if rightB x.1 x.2.1 x.2.2.1 x.2.2.2.length = true then (frameL x.1 x.2.1.toNat x.2.2.1.toNat x.2.2.2, 0) else ([], 1)
theorem good_bytes {x : Fr} (h : goodFr x) : ∀ y ∈ x.2.2.2, 0 ≤ y ∧ y < 256 := u8_bytes h.2.2.2.2
theorem encode_calls (x : Fr) (A : Option Addr) (c : Nat) (w : World) (h : IsFr w A c x) (r : List Int) (E : Int) (he : encF x = (r, E)) :
    Calls Try.prog 26 #[.agg #[.bool x.1, .int .i64 x.2.1, .int .i64 x.2.2.1, .slice A x.2.2.2.length c]] w fun e w' => ∃ v, e = .returned (.tuple #[v, .int .i64 E]) ∧ (Kd.int .u8).R 5 w' w.heap.size (fun _ => True) v r ∧ Below w.heap.size w w' := by
  obtain ⟨d, s, a, l⟩ := x
  unfold encF at he
  cases hr : rightB d s a l.length with
  | false =>
    rw [hr, if_neg (by decide)] at he
    injection he with h1 h2
    subst h1 h2
    refine (encode_no d s a A l.length c w hr).mono ?_
    rintro e w' ⟨rfl, hb⟩
    exact ⟨_, rfl, Kd.R_nil _ _ _ _ _, hb⟩
  | true =>
    rw [hr, if_pos rfl] at he
    injection he with h1 h2
    subst h1 h2
    obtain ⟨S, B, rfl, rfl, hs, ha, hl⟩ := right_facts hr
    exact encode_yes d S B A c l w h.reads h.cap hr hs ha hl (good_bytes h.good)
theorem refencode_all (x : Fr) (hg : goodFr x) (r : List Int) (E : Int) (he : encF x = (r, E)) : ∃ k, windbreakref10_Encode.f k x.1 x.2.1 x.2.2.1 x.2.2.2 = some (r, E) := by
  obtain ⟨d, s, a, l⟩ := x
  unfold encF at he
  cases hr : rightB d s a l.length with
  | false =>
    rw [hr, if_neg (by decide)] at he
    rw [← he]
    exact ⟨0, refencode_no d s a l hr 0⟩
  | true =>
    rw [hr, if_pos rfl] at he
    rw [← he]
    obtain ⟨S, B, rfl, rfl, hs, ha, hl⟩ := right_facts hr
    exact ⟨_, refencode_is d S B l hs ha hl (good_bytes hg) hr⟩

theorem box_cell {w W : World} {vs : Array Value} {t : Nat} (h : Below (w.alloc (.cells vs t)).heap.size (w.alloc (.cells vs t)) W) (j : Nat) (v : Value) (hv : vs[j]? = some v) : W.cell? ⟨w.heap.size, j, none⟩ = some v := by
  rw [h.cell (p := ⟨w.heap.size, j, none⟩) (show w.heap.size < (w.alloc (.cells vs t)).heap.size by simp), World.cell?_alloc_mark, hv]
theorem _root_.Go.Proofs.Ytekakngojhnleaa.Of.IsFr.below {w W : World} {A : Option Addr} {c : Nat} {x : Fr} (h : IsFr w A c x) (hb : Below w.heap.size w W) : IsFr W A c x := ⟨h.cap, Kd.C_below h.reads hb, h.good⟩
theorem zero_frame (w : World) : IsFr w none 0 (false, 0, 0, []) := ⟨Nat.le_refl _, Kd.C_nil _ _, trivial, by decide, by decide, by simp, by simp⟩

set_option maxRecDepth 100000 in
set_option maxHeartbeats 1000000 in
theorem encodes_calls (d : Bool) (s a : Int) (l : List Int) (A : Option Addr) (c : Nat) (w : World) (h : IsFr w A c (d, s, a, l)) (r : List Int) (E : Int) (he : encF (d, s, a, l) = (r, E)) :
    Calls Try.prog 7 #[.agg #[.bool d, .int .i64 s, .int .i64 a, .slice A l.length c]] w fun e w' => e = .returned (.bool true) ∧ Below w.heap.size w w' := by
  have H := Aside0.mk h
  have HE := Aside0.mk he
  obtain ⟨k, hk⟩ := refencode_all (d, s, a, l) h.good r E he
  have HK := Aside0.mk hk
  clear h he hk
  go_enter Try.func7, Try.ntmps7
  go_wp2_with fail
  have hB0 : Below w.heap.size w (w.alloc (.cells #[.bool d, .int .i64 s, .int .i64 a, .slice A l.length c] 53)) := below_alloc (Below.refl _ _) _
  refine (encode_calls (d, s, a, l) A c _ (H.out.below hB0) r E HE.out).mono ?_
  rintro e w2 ⟨v2, rfl, ho2, hb2⟩
  have q0 := box_cell hb2 0 _ rfl
  have q1 := box_cell hb2 1 _ rfl
  have q2 := box_cell hb2 2 _ rfl
  have q3 := box_cell hb2 3 _ rfl
  have HO2 := Aside0.mk ho2
  have HB2 := Aside0.mk (hB0.trans (hb2.mono hB0.size))
  clear ho2 hb2 hB0
  go_wp2_with fail
  refine (windbreakref10_Encode.calls k d s a A c l r E _ (Kd.C_below H.out.reads HB2.out) H.out.cap HK.out).mono ?_
  rintro e w3 ⟨v3, rfl, ho3, hb3⟩
  have HO2b := Aside0.mk (Kd.R_below HO2.out hb3)
  have HO3 := Aside0.mk ho3
  have HB3 := Aside0.mk (HB2.out.trans (hb3.mono HB2.out.size))
  clear ho3 hb3 q0 q1 q2 q3
  go_wp2_with fail
  refine (encode_calls (false, 0, 0, []) none 0 _ (zero_frame w3) (frameL false 0 0 []) 0 rfl).mono ?_
  rintro e w4 ⟨v4, rfl, ho4, hb4⟩
  obtain ⟨A4, c4, rfl, _, _⟩ := Kd.R_reads ho4
  have h8 : (frameL false 0 0 []).length = 8 := rfl
  rw [h8]
  have HB4 := Aside0.mk (HB3.out.trans (hb4.mono HB3.out.size))
  have hs2 := fun W (hW : Below w4.heap.size w4 W) => as_string (Kd.R_below HO2b.out hb4) W hW
  have hs3 := fun W (hW : Below w4.heap.size w4 W) => as_string (Kd.R_below HO3.out hb4) W hW
  clear ho4 h8 hb4
  have q2 := hs2 w4.drew (below_drew (Below.refl _ _))
  have q3 := hs3 w4.drew (below_drew (Below.refl _ _))
  have q2' := hs2 w4 (Below.refl _ _)
  have q3' := hs3 w4 (Below.refl _ _)
  clear hs2 hs3
  go_wp2_with fail
  go_ret
  exact ⟨rfl, HB4.out⟩
theorem frameEncodes_walk (x : Fr × Option Addr × Nat) (w : World) (h : IsFr w x.2.1 x.2.2 x.1) :
    Calls Try.prog 7 #[.agg #[.bool x.1.1, .int .i64 x.1.2.1, .int .i64 x.1.2.2.1, .slice x.2.1 x.1.2.2.2.length x.2.2]] w fun e w' => e = .returned (.bool true) ∧ Below w.heap.size w w' := by
  obtain ⟨⟨d, s, a, l⟩, A, c⟩ := x
  exact encodes_calls d s a l A c w h _ _ rfl
end Go.Proofs.Ytekakngojhnleaa.Ew
