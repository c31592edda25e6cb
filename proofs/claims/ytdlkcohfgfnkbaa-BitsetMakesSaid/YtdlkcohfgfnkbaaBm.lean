/- BitsetMakes: the law's walk. -/
import Derived.Test.YtdlkcohfgfnkbaaBo
import Derived.Test.YtdlkcohfgfnkbaaBf
import Derived.Test.YtdlkcohfgfnkbaaOb
namespace Go.Proofs.Ytdlkcohfgfnkbaa.Bm
open Go.RowKit Go.Proofs.Ytdlkcohfgfnkbaa.PBitsetJoins Go.Proofs.Ytdlkcohfgfnkbaa.Fns Go.Proofs.Ytdlkcohfgfnkbaa.Bp Go.Proofs.Ytdlkcohfgfnkbaa.Bj Go.Proofs.Ytdlkcohfgfnkbaa.Bo Go.Proofs.Ytdlkcohfgfnkbaa.Ob Go.Proofs.YtdlkcohfgfnkbaaW.PrintWords Go.Proofs.YtdlkcohfgfnkbaaW.PrintLast Go.Proofs.YtdlkcohfgfnkbaaW.PrintMore
set_option linter.unusedSimpArgs false
set_option linter.unusedVariables false

set_option maxRecDepth 100000 in
set_option maxHeartbeats 1000000 in
theorem makes_walk (N : Int) (A : Option Addr) (c : Nat) (l : List Int) (w : World) (hwN : (Lit.int .i64 N).wf = true) (hr : Kd.C (Kd.int .i64) w A l.length l) (hc : l.length ≤ c) (hl : l.length * 8 ≤ 140737488351232) (hw : ∀ x ∈ l, (Lit.int .i64 x).wf = true) :
    Calls Try.prog 4 #[.int .i64 N, .slice A l.length c] w fun e w' => e = .returned (.bool true) ∧ Below w.heap.size w w' := by
  have HR := Aside0.mk hr
  have hl2 : l.length ≤ 140737488351232 := by omega
  clear hr hw hwN hl
  by_cases hbig : (l.length : Int) > 100000
  · go_enter Try.func4, Try.ntmps4
    go_wp2_with fail
    go_ret
    exact ⟨rfl, Below.refl _ _⟩
  · obtain ⟨⟨r1, r2, r3⟩, hr⟩ : ∃ r, ofS N [] = r := ⟨_, rfl⟩
    obtain ⟨⟨s1, s2, s3⟩, hs⟩ : ∃ r, fullS N = r := ⟨_, rfl⟩
    obtain ⟨⟨t1, t2, t3⟩, ht⟩ : ∃ r, ofS N l = r := ⟨_, rfl⟩
    obtain ⟨k1, hk1⟩ := (ref_new N).rounds
    obtain ⟨k2, hk2⟩ := (prog_full N).rounds
    obtain ⟨k3, hk3⟩ := (ref_full N).rounds
    obtain ⟨k4, hk4⟩ := (ref_of N l hl2).rounds
    obtain ⟨k5, hk5⟩ := (prog_full 1).rounds
    have lr := ofS_len N []
    have ls := fullS_len N
    have lt := ofS_len N l
    have hk0 := prog_new N
    rw [← ofS_nil, hr] at hk0
    rw [hr] at hk1 lr
    rw [hs] at hk2 hk3 ls
    rw [ht] at hk4 lt
    obtain ⟨m1, hm1⟩ := (ref_same r1 r2 lr).rounds
    obtain ⟨m2, hm2⟩ := (ref_same s1 s2 ls).rounds
    obtain ⟨m3, hm3⟩ := (ref_same t1 t2 lt).rounds
    have H1 := Aside0.mk (And.intro hk0 (And.intro hk1 hm1))
    have H2 := Aside0.mk (And.intro hk2 (And.intro hk3 hm2))
    have H3 := Aside0.mk (And.intro ht (And.intro hk4 hm3))
    have H5 := Aside0.mk hk5
    have HB0 := Aside0.mk (Below.refl w.heap.size w)
    clear hr hs ht hk0 hk1 hk2 hk3 hk4 hk5 hm1 hm2 hm3 lr ls lt
    go_enter Try.func4, Try.ntmps4
    go_wp2_with fail
    refine (bitset_New.calls N r1 r2 r3 _ H1.out.1).mono ?_
    rintro e w1a ⟨V, rfl, ho, hb⟩
    obtain ⟨Xa, xa, rfl, hxa, hq⟩ := Kd.R_reads ho
    have HBa := Aside0.mk (below_alloc (HB0.out.trans (hb.mono HB0.out.size)) (.cells #[.int .i64 r1, .slice Xa r2.length xa] 24))
    have HXa := Aside0.mk (blk_new w1a (.cells #[.int .i64 r1, .slice Xa r2.length xa] 24))
    have HRa := Aside0.mk (Kd.C_alloc hq (.cells #[.int .i64 r1, .slice Xa r2.length xa] 24))
    clear ho hb hq HB0
    go_wp2_with fail
    refine (windbreakref14_New.calls k1 N r1 r2 r3 _ H1.out.2.1).mono ?_
    rintro e w2a ⟨V, rfl, ho, hb⟩
    obtain ⟨Ya, ya, rfl, hya, hq⟩ := Kd.R_reads ho
    have HBb := Aside0.mk (below_alloc (HBa.out.trans (hb.mono HBa.out.size)) (.cells #[.int .i64 r1, .slice Ya r2.length ya] 24))
    have HXb := Aside0.mk (blk_alloc (blk_below HXa.out hb) (.cells #[.int .i64 r1, .slice Ya r2.length ya] 24))
    have HYb := Aside0.mk (blk_new w2a (.cells #[.int .i64 r1, .slice Ya r2.length ya] 24))
    have HRb := Aside0.mk (Kd.C_alloc (Kd.C_below HRa.out hb) (.cells #[.int .i64 r1, .slice Ya r2.length ya] 24))
    have HRc := Aside0.mk (Kd.C_alloc hq (.cells #[.int .i64 r1, .slice Ya r2.length ya] 24))
    obtain ⟨c1, c2⟩ := two_cells HXb.out
    clear ho hb hq HBa HXa HRa
    go_wp2_with fail
    refine (windbreakref14_Same.calls m1 r1 Xa xa r2 r1 Ya ya r2 true _ HRb.out hxa HRc.out hya H1.out.2.2).mono ?_
    rintro e w3a ⟨rfl, hb⟩
    have HB0 := Aside0.mk (HBb.out.trans (hb.mono HBb.out.size))
    clear hb HBb HXb HYb HRb HRc c1 c2
    go_wp2_with fail
    refine (bitset_Full.calls k2 N s1 s2 s3 _ H2.out.1).mono ?_
    rintro e w1b ⟨V, rfl, ho, hb⟩
    obtain ⟨Xb, xb, rfl, hxb, hq⟩ := Kd.R_reads ho
    have HBa := Aside0.mk (below_alloc (HB0.out.trans (hb.mono HB0.out.size)) (.cells #[.int .i64 s1, .slice Xb s2.length xb] 24))
    have HXa := Aside0.mk (blk_new w1b (.cells #[.int .i64 s1, .slice Xb s2.length xb] 24))
    have HRa := Aside0.mk (Kd.C_alloc hq (.cells #[.int .i64 s1, .slice Xb s2.length xb] 24))
    clear ho hb hq HB0
    go_wp2_with fail
    refine (windbreakref14_Full.calls k3 N s1 s2 s3 _ H2.out.2.1).mono ?_
    rintro e w2b ⟨V, rfl, ho, hb⟩
    obtain ⟨Yb, yb, rfl, hyb, hq⟩ := Kd.R_reads ho
    have HBb := Aside0.mk (below_alloc (HBa.out.trans (hb.mono HBa.out.size)) (.cells #[.int .i64 s1, .slice Yb s2.length yb] 24))
    have HXb := Aside0.mk (blk_alloc (blk_below HXa.out hb) (.cells #[.int .i64 s1, .slice Yb s2.length yb] 24))
    have HYb := Aside0.mk (blk_new w2b (.cells #[.int .i64 s1, .slice Yb s2.length yb] 24))
    have HRb := Aside0.mk (Kd.C_alloc (Kd.C_below HRa.out hb) (.cells #[.int .i64 s1, .slice Yb s2.length yb] 24))
    have HRc := Aside0.mk (Kd.C_alloc hq (.cells #[.int .i64 s1, .slice Yb s2.length yb] 24))
    obtain ⟨c1, c2⟩ := two_cells HXb.out
    clear ho hb hq HBa HXa HRa
    go_wp2_with fail
    refine (windbreakref14_Same.calls m2 s1 Xb xb s2 s1 Yb yb s2 true _ HRb.out hxb HRc.out hyb H2.out.2.2).mono ?_
    rintro e w3b ⟨rfl, hb⟩
    have HB0 := Aside0.mk (HBb.out.trans (hb.mono HBb.out.size))
    clear hb HBb HXb HYb HRb HRc c1 c2
    go_wp2_with fail
    refine (of_calls N A c l _ (Kd.C_below HR.out HB0.out) hl2 t1 t2 t3 H3.out.1).mono ?_
    rintro e w1c ⟨V, rfl, ho, hb⟩
    obtain ⟨Xc, xc, rfl, hxc, hq⟩ := Kd.R_reads ho
    have HBa := Aside0.mk (below_alloc (HB0.out.trans (hb.mono HB0.out.size)) (.cells #[.int .i64 t1, .slice Xc t2.length xc] 24))
    have HXa := Aside0.mk (blk_new w1c (.cells #[.int .i64 t1, .slice Xc t2.length xc] 24))
    have HRa := Aside0.mk (Kd.C_alloc hq (.cells #[.int .i64 t1, .slice Xc t2.length xc] 24))
    clear ho hb hq HB0
    go_wp2_with fail
    refine (windbreakref14_Of.calls k4 N A c l t1 t2 t3 _ (Kd.C_below HR.out HBa.out) hc H3.out.2.1).mono ?_
    rintro e w2c ⟨V, rfl, ho, hb⟩
    obtain ⟨Yc, yc, rfl, hyc, hq⟩ := Kd.R_reads ho
    have HBb := Aside0.mk (below_alloc (HBa.out.trans (hb.mono HBa.out.size)) (.cells #[.int .i64 t1, .slice Yc t2.length yc] 24))
    have HXb := Aside0.mk (blk_alloc (blk_below HXa.out hb) (.cells #[.int .i64 t1, .slice Yc t2.length yc] 24))
    have HYb := Aside0.mk (blk_new w2c (.cells #[.int .i64 t1, .slice Yc t2.length yc] 24))
    have HRb := Aside0.mk (Kd.C_alloc (Kd.C_below HRa.out hb) (.cells #[.int .i64 t1, .slice Yc t2.length yc] 24))
    have HRc := Aside0.mk (Kd.C_alloc hq (.cells #[.int .i64 t1, .slice Yc t2.length yc] 24))
    obtain ⟨c1, c2⟩ := two_cells HXb.out
    clear ho hb hq HBa HXa HRa
    go_wp2_with fail
    refine (windbreakref14_Same.calls m3 t1 Xc xc t2 t1 Yc yc t2 true _ HRb.out hxc HRc.out hyc H3.out.2.2).mono ?_
    rintro e w3c ⟨rfl, hb⟩
    have HB0 := Aside0.mk (HBb.out.trans (hb.mono HBb.out.size))
    clear hb HBb HXb HYb HRb HRc c1 c2
    go_wp2_with fail
    refine (bitset_Full.calls k5 1 1 _ 0 _ H5.out).mono ?_
    rintro e w4 ⟨V, rfl, ho, hb⟩
    obtain ⟨X, x, rfl, hx, hq⟩ := Kd.R_reads ho
    have HBa := Aside0.mk (HB0.out.trans (hb.mono HB0.out.size))
    clear ho hb hq HB0
    go_wp2_with fail
    go_ret
    exact ⟨rfl, below_alloc HBa.out _⟩
end Go.Proofs.Ytdlkcohfgfnkbaa.Bm
