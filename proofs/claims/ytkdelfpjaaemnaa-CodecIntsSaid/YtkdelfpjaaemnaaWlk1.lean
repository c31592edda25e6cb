/- CodecNumbers, CodecInts, CodecBytes: the law's Go function answers true at every input, and old memory stays as it was. -/
import Derived.Test.YtkdelfpjaaemnaaPlain
import Derived.Deep.RegionWith
namespace Go.Proofs.Ytkdelfpjaaemnaa.Wlk
open Go.RowKit Go.Proofs.Ytkdelfpjaaemnaa.PCodecInts Go.Proofs.Ytkdelfpjaaemnaa.Fns Go.Proofs.Ytkdelfpjaaemnaa.Plain Go.Proofs.YtkdelfpjaaemnaaW.PrintWords Go.Proofs.YtkdelfpjaaemnaaW.PrintLast Go.Proofs.YtkdelfpjaaemnaaW.PrintMore

/-- What a callee has made, as a string, in every later world. -/
theorem as_string {w : World} {base : Nat} {ok : Nat → Prop} {v : Value} {r : List Int} (h : (Kd.int .u8).R 5 w base ok v r) (W : World) (hW : Below w.heap.size w W) : (convert 23 9 v).run Try.prog W = .ok (.string (strOfNums r)) W :=
  own_string (P := Try.prog) Try.underlying23 Try.underlying5 Try.underlying9 (Kd.own_of_R (Kd.R_below h hW))

set_option maxHeartbeats 400000 in
theorem numbers_calls (k : Nat) (x : Int) (r : List Int) (w : World) (h : codec_Number.f k x = some r) (h' : windbreakref09_Number.f k x = some r) :
    Calls Try.prog 3 #[.int .u64 x] w fun e w' => e = .returned (.bool true) ∧ Below w.heap.size w w' := by
  have H1 := Aside0.mk h
  have H2 := Aside0.mk h'
  clear h h'
  go_enter Try.func3, Try.ntmps3
  go_wp2_with fail
  refine (codec_Number.calls k x r _ H1.out).mono ?_
  rintro e w1 ⟨v1, rfl, ho1, hb1⟩
  have HB1 := Aside0.mk hb1
  clear hb1
  go_wp2_with fail
  have hc0 := as_string ho1 w1.drew (below_drew (Below.refl _ _))
  go_region_with (go_at_call 11; refine (windbreakref09_Number.calls k x r _ H2.out).mono ?_; rintro e w2 ⟨v2, rfl, ho2, hb2⟩; have hb3 := (below_drew (Below.refl _ _)).trans hb2; have hc1 := as_string ho1 w2 hb3; have hc2 := as_string ho2 w2 (Below.refl _ _))
  all_goals
    go_wp2
    go_ret
    exact ⟨rfl, HB1.out.trans (hb3.mono HB1.out.size)⟩

set_option maxHeartbeats 400000 in
theorem ints_calls (k : Nat) (x : Int) (r : List Int) (w : World) (h : codec_Int.f k x = some r) (h' : windbreakref09_Int.f k x = some r) :
    Calls Try.prog 4 #[.int .i64 x] w fun e w' => e = .returned (.bool true) ∧ Below w.heap.size w w' := by
  have H1 := Aside0.mk h
  have H2 := Aside0.mk h'
  clear h h'
  go_enter Try.func4, Try.ntmps4
  go_wp2_with fail
  refine (codec_Int.calls k x r _ H1.out).mono ?_
  rintro e w1 ⟨v1, rfl, ho1, hb1⟩
  have HB1 := Aside0.mk hb1
  clear hb1
  go_wp2_with fail
  have hc0 := as_string ho1 w1.drew (below_drew (Below.refl _ _))
  go_region_with (go_at_call 13; refine (windbreakref09_Int.calls k x r _ H2.out).mono ?_; rintro e w2 ⟨v2, rfl, ho2, hb2⟩; have hb3 := (below_drew (Below.refl _ _)).trans hb2; have hc1 := as_string ho1 w2 hb3; have hc2 := as_string ho2 w2 (Below.refl _ _))
  all_goals
    go_wp2
    go_ret
    exact ⟨rfl, HB1.out.trans (hb3.mono HB1.out.size)⟩

set_option maxHeartbeats 400000 in
theorem bytes_calls (k : Nat) (A0 : Option Addr) (c0 : Nat) (l0 r : List Int) (w : World) (hr0 : Kd.C (Kd.int .u8) w A0 l0.length l0) (hc0 : l0.length ≤ c0) (h : codec_Bytes.f k l0 = some r) (h' : windbreakref09_Bytes.f k l0 = some r) :
    Calls Try.prog 5 #[.slice A0 l0.length c0] w fun e w' => e = .returned (.bool true) ∧ Below w.heap.size w w' := by
  have H1 := Aside0.mk h
  have H2 := Aside0.mk h'
  have HR := Aside0.mk hr0
  clear h h' hr0
  go_enter Try.func5, Try.ntmps5
  go_wp2_with fail
  refine (codec_Bytes.calls k A0 c0 l0 r _ HR.out hc0 H1.out).mono ?_
  rintro e w1 ⟨v1, rfl, ho1, hb1⟩
  have HB1 := Aside0.mk hb1
  clear hb1
  go_wp2_with fail
  have hs0 := as_string ho1 w1.drew (below_drew (Below.refl _ _))
  have HR1 := Aside0.mk (Kd.C_below HR.out (below_drew HB1.out))
  go_region_with (go_at_call 15; refine (windbreakref09_Bytes.calls k A0 c0 l0 r _ HR1.out hc0 H2.out).mono ?_; rintro e w2 ⟨v2, rfl, ho2, hb2⟩; have hb3 := (below_drew (Below.refl _ _)).trans hb2; have hs1 := as_string ho1 w2 hb3; have hs2 := as_string ho2 w2 (Below.refl _ _))
  all_goals
    go_wp2
    go_ret
    exact ⟨rfl, HB1.out.trans (hb3.mono HB1.out.size)⟩

theorem codecNumbers_walk (x : Int) (w : World) (w0 : (Lit.int .u64 x).wf = true) :
    Calls Try.prog 3 #[.int .u64 x] w fun e w' => e = .returned (.bool true) ∧ Below w.heap.size w w' := by
  obtain ⟨h0, h1⟩ := u64_bounds w0
  obtain ⟨r, hr, hr', _⟩ := number_all x h0 h1
  exact numbers_calls 10 x r w hr hr'

theorem codecInts_walk (x : Int) (w : World) (w0 : (Lit.int .i64 x).wf = true) :
    Calls Try.prog 4 #[.int .i64 x] w fun e w' => e = .returned (.bool true) ∧ Below w.heap.size w w' := by
  obtain ⟨h0, h1⟩ := i64_bounds w0
  have hz := zig x h0 h1
  obtain ⟨b0, b1⟩ := bits_range (IntKind.u64.wrap ((IntKind.u64.wrap x) * 2)) (IntKind.u64.wrap (x / 9223372036854775808))
  obtain ⟨r, hr, hr', _⟩ := number_all _ b0 b1
  refine ints_calls 10 x r w ?_ ?_
  · unfold codec_Int.f
    rw [hr]
    rfl
  · unfold windbreakref09_Int.f
    rw [hz, Option.bind_some, hr']
    rfl

theorem codecBytes_walk (A0 : Option Addr) (c0 : Nat) (l0 : List Int) (w : World) (hr0 : Kd.C (Kd.int .u8) w A0 l0.length l0) (hc0 : l0.length ≤ c0) (hl : l0.length * 1 ≤ 140737488351232) (_hw : ∀ x ∈ l0, (Lit.int .u8 x).wf = true) :
    Calls Try.prog 5 #[.slice A0 l0.length c0] w fun e w' => e = .returned (.bool true) ∧ Below w.heap.size w w' := by
  have hw : 0 ≤ IntKind.u64.wrap (l0.length : Int) ∧ IntKind.u64.wrap (l0.length : Int) < 18446744073709551616 := by rw [IntKind.wrap_u64]; omega
  obtain ⟨r, hr, hr', hlen⟩ := number_all _ hw.1 hw.2
  refine bytes_calls 10 A0 c0 l0 (r ++ l0) w hr0 hc0 ?_ ?_
  · unfold codec_Bytes.f
    rw [hr, Option.bind_some, if_pos (by omega)]
  · unfold windbreakref09_Bytes.f
    rw [hr', Option.bind_some, if_pos (by omega)]
end Go.Proofs.Ytkdelfpjaaemnaa.Wlk
