/- How many bits a number of 64 bits has: the walk, once for each way. -/
import Derived.Test.YtdaelbihfdlgkaaProg
import Derived.WalkKit
import Derived.Test.YtdaelbihfdlgkaaWWords
import Derived.Lib.Strings
import Derived.Lib.Slices
import Derived.Lib.Small
import Derived.Lib.Walk
import Derived.Lib.BitFns
namespace Go.Proofs.Ytdaelbihfdlgkaa.Nk
open Go.RowKit Go.Proofs.YtdaelbihfdlgkaaW.PrintWords
set_option linter.unusedVariables false
theorem key (i : Int) (h : i.toNat < Lib.len8tab.size) : ((Lib.len8tab[i.toNat]'h).toNat : Int) = Lib.len8 i := by
  unfold Lib.len8
  rw [getElem?_pos Lib.len8tab i.toNat h]
  rfl
theorem pf_56 (x u : Int) (h0 : 0 ≤ x) (h1 : x ≤ 18446744073709551615) (i0 : 0 ≤ u) (i1 : u ≤ 255) (e : u = x / 72057594037927936 ∧ (72057594037927936 ≤ x ∨ 72057594037927936 = 1)) : ∃ L : Nat, Lib.len8 u = (L : Int) ∧ L ≤ 8 ∧ Lib.bitLen x.toNat = 56 + L := by
  refine ⟨Lib.bitLen u.toNat, Lib.len8_of u i0 i1, Lib.bitLen_le8' u i0 i1, ?_⟩
  have he : u.toNat = x.toNat / 72057594037927936 := by omega
  rw [he]
  exact Lib.bitLen_shift56 x.toNat (by omega) (by omega)
theorem fin56 {L R : Nat} (h : L ≤ 8) (e : R = 56 + L) : wrap64 (56 + wrap64 (L : Int)) = (R : Int) := by
  unfold wrap64
  omega
theorem pf_48 (x u : Int) (h0 : 0 ≤ x) (h1 : x ≤ 18446744073709551615) (i0 : 0 ≤ u) (i1 : u ≤ 255) (e : u = x / 281474976710656 ∧ (281474976710656 ≤ x ∨ 281474976710656 = 1)) : ∃ L : Nat, Lib.len8 u = (L : Int) ∧ L ≤ 8 ∧ Lib.bitLen x.toNat = 48 + L := by
  refine ⟨Lib.bitLen u.toNat, Lib.len8_of u i0 i1, Lib.bitLen_le8' u i0 i1, ?_⟩
  have he : u.toNat = x.toNat / 281474976710656 := by omega
  rw [he]
  exact Lib.bitLen_shift48 x.toNat (by omega) (by omega)
theorem fin48 {L R : Nat} (h : L ≤ 8) (e : R = 48 + L) : wrap64 (48 + wrap64 (L : Int)) = (R : Int) := by
  unfold wrap64
  omega
theorem pf_40 (x u : Int) (h0 : 0 ≤ x) (h1 : x ≤ 18446744073709551615) (i0 : 0 ≤ u) (i1 : u ≤ 255) (e : u = x / 1099511627776 ∧ (1099511627776 ≤ x ∨ 1099511627776 = 1)) : ∃ L : Nat, Lib.len8 u = (L : Int) ∧ L ≤ 8 ∧ Lib.bitLen x.toNat = 40 + L := by
  refine ⟨Lib.bitLen u.toNat, Lib.len8_of u i0 i1, Lib.bitLen_le8' u i0 i1, ?_⟩
  have he : u.toNat = x.toNat / 1099511627776 := by omega
  rw [he]
  exact Lib.bitLen_shift40 x.toNat (by omega) (by omega)
theorem fin40 {L R : Nat} (h : L ≤ 8) (e : R = 40 + L) : wrap64 (40 + wrap64 (L : Int)) = (R : Int) := by
  unfold wrap64
  omega
theorem pf_32 (x u : Int) (h0 : 0 ≤ x) (h1 : x ≤ 18446744073709551615) (i0 : 0 ≤ u) (i1 : u ≤ 255) (e : u = x / 4294967296 ∧ (4294967296 ≤ x ∨ 4294967296 = 1)) : ∃ L : Nat, Lib.len8 u = (L : Int) ∧ L ≤ 8 ∧ Lib.bitLen x.toNat = 32 + L := by
  refine ⟨Lib.bitLen u.toNat, Lib.len8_of u i0 i1, Lib.bitLen_le8' u i0 i1, ?_⟩
  have he : u.toNat = x.toNat / 4294967296 := by omega
  rw [he]
  exact Lib.bitLen_shift32 x.toNat (by omega) (by omega)
theorem fin32 {L R : Nat} (h : L ≤ 8) (e : R = 32 + L) : wrap64 (32 + wrap64 (L : Int)) = (R : Int) := by
  unfold wrap64
  omega
theorem pf_24 (x u : Int) (h0 : 0 ≤ x) (h1 : x ≤ 18446744073709551615) (i0 : 0 ≤ u) (i1 : u ≤ 255) (e : u = x / 16777216 ∧ (16777216 ≤ x ∨ 16777216 = 1)) : ∃ L : Nat, Lib.len8 u = (L : Int) ∧ L ≤ 8 ∧ Lib.bitLen x.toNat = 24 + L := by
  refine ⟨Lib.bitLen u.toNat, Lib.len8_of u i0 i1, Lib.bitLen_le8' u i0 i1, ?_⟩
  have he : u.toNat = x.toNat / 16777216 := by omega
  rw [he]
  exact Lib.bitLen_shift24 x.toNat (by omega) (by omega)
theorem fin24 {L R : Nat} (h : L ≤ 8) (e : R = 24 + L) : wrap64 (24 + wrap64 (L : Int)) = (R : Int) := by
  unfold wrap64
  omega
theorem pf_16 (x u : Int) (h0 : 0 ≤ x) (h1 : x ≤ 18446744073709551615) (i0 : 0 ≤ u) (i1 : u ≤ 255) (e : u = x / 65536 ∧ (65536 ≤ x ∨ 65536 = 1)) : ∃ L : Nat, Lib.len8 u = (L : Int) ∧ L ≤ 8 ∧ Lib.bitLen x.toNat = 16 + L := by
  refine ⟨Lib.bitLen u.toNat, Lib.len8_of u i0 i1, Lib.bitLen_le8' u i0 i1, ?_⟩
  have he : u.toNat = x.toNat / 65536 := by omega
  rw [he]
  exact Lib.bitLen_shift16 x.toNat (by omega) (by omega)
theorem fin16 {L R : Nat} (h : L ≤ 8) (e : R = 16 + L) : wrap64 (16 + wrap64 (L : Int)) = (R : Int) := by
  unfold wrap64
  omega
theorem pf_8 (x u : Int) (h0 : 0 ≤ x) (h1 : x ≤ 18446744073709551615) (i0 : 0 ≤ u) (i1 : u ≤ 255) (e : u = x / 256 ∧ (256 ≤ x ∨ 256 = 1)) : ∃ L : Nat, Lib.len8 u = (L : Int) ∧ L ≤ 8 ∧ Lib.bitLen x.toNat = 8 + L := by
  refine ⟨Lib.bitLen u.toNat, Lib.len8_of u i0 i1, Lib.bitLen_le8' u i0 i1, ?_⟩
  have he : u.toNat = x.toNat / 256 := by omega
  rw [he]
  exact Lib.bitLen_shift8 x.toNat (by omega) (by omega)
theorem fin8 {L R : Nat} (h : L ≤ 8) (e : R = 8 + L) : wrap64 (8 + wrap64 (L : Int)) = (R : Int) := by
  unfold wrap64
  omega
theorem pf_0 (x u : Int) (h0 : 0 ≤ x) (h1 : x ≤ 18446744073709551615) (i0 : 0 ≤ u) (i1 : u ≤ 255) (e : u = x / 1 ∧ (1 ≤ x ∨ 1 = 1)) : ∃ L : Nat, Lib.len8 u = (L : Int) ∧ L ≤ 8 ∧ Lib.bitLen x.toNat = 0 + L := by
  refine ⟨Lib.bitLen u.toNat, Lib.len8_of u i0 i1, Lib.bitLen_le8' u i0 i1, ?_⟩
  have he : u.toNat = x.toNat / 1 := by omega
  rw [he]
  rw [Nat.div_one, Nat.zero_add]
theorem fin0 {L R : Nat} (h : L ≤ 8) (e : R = 0 + L) : wrap64 (wrap64 (L : Int)) = (R : Int) := by
  unfold wrap64
  omega
set_option maxHeartbeats 4000000 in
set_option maxRecDepth 100000 in
theorem len_111 (x y z u : Int) (w : World) (h0 : 0 ≤ x) (h1 : x ≤ 18446744073709551615) (cy : 4294967296 ≤ x) (ey : x / 4294967296 = y) (cz : 65536 ≤ y) (ez : y / 65536 = z) (cu : 256 ≤ z) (eu : z / 256 = u) : Calls Try.prog 29 #[.int .u64 x] w fun e w' => e = .returned (.int .i64 (Lib.bitLen x.toNat)) ∧ w' = w := by
  have dy : decide ((4294967296 : Int) ≤ x) = true := decide_eq_true cy
  have dz : decide ((65536 : Int) ≤ y) = true := decide_eq_true cz
  have du : decide ((256 : Int) ≤ z) = true := decide_eq_true cu
  have i0 : 0 ≤ u := by omega
  have i1 : u ≤ 255 := by omega
  have i2 : u % 256 = u := by omega
  have hrun := fun (W : World) => Lib.run_index_len8tab (P := Try.prog) (w := W) 9 .u8 u Try.underlying9 i0 i1
  obtain ⟨L, l1, l2, l3⟩ := pf_56 x (u) (by omega) (by omega) i0 i1 (by omega)
  obtain ⟨R, hR⟩ : ∃ R, R = Lib.bitLen x.toNat := ⟨_, rfl⟩
  rw [← hR] at l3 ⊢
  have HH := Aside0.mk (And.intro l2 l3)
  have hrun2 : ∀ W : World, (Instr.index 9 (.string Lib.len8tab) (.int .u8 u)).run Try.prog W = .ok (.int .u8 (L : Int)) W := fun W => by rw [hrun W, l1]
  clear hrun l1 l2 l3 hR h0 h1
  go_enter Try.func29, Try.ntmps29
  go_wp2
  go_ret
  refine ⟨congrArg Ending.returned (congrArg (Value.int IntKind.i64) ?_), rfl⟩
  exact fin56 HH.out.1 HH.out.2
set_option maxHeartbeats 4000000 in
set_option maxRecDepth 100000 in
theorem len_110 (x y z : Int) (w : World) (h0 : 0 ≤ x) (h1 : x ≤ 18446744073709551615) (cy : 4294967296 ≤ x) (ey : x / 4294967296 = y) (cz : 65536 ≤ y) (ez : y / 65536 = z) (cu : z < 256) : Calls Try.prog 29 #[.int .u64 x] w fun e w' => e = .returned (.int .i64 (Lib.bitLen x.toNat)) ∧ w' = w := by
  have dy : decide ((4294967296 : Int) ≤ x) = true := decide_eq_true cy
  have dz : decide ((65536 : Int) ≤ y) = true := decide_eq_true cz
  have du : decide ((256 : Int) ≤ z) = false := decide_eq_false (by omega)
  have i0 : 0 ≤ z := by omega
  have i1 : z ≤ 255 := by omega
  have i2 : z % 256 = z := by omega
  have hrun := fun (W : World) => Lib.run_index_len8tab (P := Try.prog) (w := W) 9 .u8 z Try.underlying9 i0 i1
  obtain ⟨L, l1, l2, l3⟩ := pf_48 x (z) (by omega) (by omega) i0 i1 (by omega)
  obtain ⟨R, hR⟩ : ∃ R, R = Lib.bitLen x.toNat := ⟨_, rfl⟩
  rw [← hR] at l3 ⊢
  have HH := Aside0.mk (And.intro l2 l3)
  have hrun2 : ∀ W : World, (Instr.index 9 (.string Lib.len8tab) (.int .u8 z)).run Try.prog W = .ok (.int .u8 (L : Int)) W := fun W => by rw [hrun W, l1]
  clear hrun l1 l2 l3 hR h0 h1
  go_enter Try.func29, Try.ntmps29
  go_wp2
  go_ret
  refine ⟨congrArg Ending.returned (congrArg (Value.int IntKind.i64) ?_), rfl⟩
  exact fin48 HH.out.1 HH.out.2
set_option maxHeartbeats 4000000 in
set_option maxRecDepth 100000 in
theorem len_101 (x y u : Int) (w : World) (h0 : 0 ≤ x) (h1 : x ≤ 18446744073709551615) (cy : 4294967296 ≤ x) (ey : x / 4294967296 = y) (cz : y < 65536) (cu : 256 ≤ y) (eu : y / 256 = u) : Calls Try.prog 29 #[.int .u64 x] w fun e w' => e = .returned (.int .i64 (Lib.bitLen x.toNat)) ∧ w' = w := by
  have dy : decide ((4294967296 : Int) ≤ x) = true := decide_eq_true cy
  have dz : decide ((65536 : Int) ≤ y) = false := decide_eq_false (by omega)
  have du : decide ((256 : Int) ≤ y) = true := decide_eq_true cu
  have i0 : 0 ≤ u := by omega
  have i1 : u ≤ 255 := by omega
  have i2 : u % 256 = u := by omega
  have hrun := fun (W : World) => Lib.run_index_len8tab (P := Try.prog) (w := W) 9 .u8 u Try.underlying9 i0 i1
  obtain ⟨L, l1, l2, l3⟩ := pf_40 x (u) (by omega) (by omega) i0 i1 (by omega)
  obtain ⟨R, hR⟩ : ∃ R, R = Lib.bitLen x.toNat := ⟨_, rfl⟩
  rw [← hR] at l3 ⊢
  have HH := Aside0.mk (And.intro l2 l3)
  have hrun2 : ∀ W : World, (Instr.index 9 (.string Lib.len8tab) (.int .u8 u)).run Try.prog W = .ok (.int .u8 (L : Int)) W := fun W => by rw [hrun W, l1]
  clear hrun l1 l2 l3 hR h0 h1
  go_enter Try.func29, Try.ntmps29
  go_wp2
  go_ret
  refine ⟨congrArg Ending.returned (congrArg (Value.int IntKind.i64) ?_), rfl⟩
  exact fin40 HH.out.1 HH.out.2
set_option maxHeartbeats 4000000 in
set_option maxRecDepth 100000 in
theorem len_100 (x y : Int) (w : World) (h0 : 0 ≤ x) (h1 : x ≤ 18446744073709551615) (cy : 4294967296 ≤ x) (ey : x / 4294967296 = y) (cz : y < 65536) (cu : y < 256) : Calls Try.prog 29 #[.int .u64 x] w fun e w' => e = .returned (.int .i64 (Lib.bitLen x.toNat)) ∧ w' = w := by
  have dy : decide ((4294967296 : Int) ≤ x) = true := decide_eq_true cy
  have dz : decide ((65536 : Int) ≤ y) = false := decide_eq_false (by omega)
  have du : decide ((256 : Int) ≤ y) = false := decide_eq_false (by omega)
  have i0 : 0 ≤ y := by omega
  have i1 : y ≤ 255 := by omega
  have i2 : y % 256 = y := by omega
  have hrun := fun (W : World) => Lib.run_index_len8tab (P := Try.prog) (w := W) 9 .u8 y Try.underlying9 i0 i1
  obtain ⟨L, l1, l2, l3⟩ := pf_32 x (y) (by omega) (by omega) i0 i1 (by omega)
  obtain ⟨R, hR⟩ : ∃ R, R = Lib.bitLen x.toNat := ⟨_, rfl⟩
  rw [← hR] at l3 ⊢
  have HH := Aside0.mk (And.intro l2 l3)
  have hrun2 : ∀ W : World, (Instr.index 9 (.string Lib.len8tab) (.int .u8 y)).run Try.prog W = .ok (.int .u8 (L : Int)) W := fun W => by rw [hrun W, l1]
  clear hrun l1 l2 l3 hR h0 h1
  go_enter Try.func29, Try.ntmps29
  go_wp2
  go_ret
  refine ⟨congrArg Ending.returned (congrArg (Value.int IntKind.i64) ?_), rfl⟩
  exact fin32 HH.out.1 HH.out.2
set_option maxHeartbeats 4000000 in
set_option maxRecDepth 100000 in
theorem len_011 (x z u : Int) (w : World) (h0 : 0 ≤ x) (h1 : x ≤ 18446744073709551615) (cy : x < 4294967296) (cz : 65536 ≤ x) (ez : x / 65536 = z) (cu : 256 ≤ z) (eu : z / 256 = u) : Calls Try.prog 29 #[.int .u64 x] w fun e w' => e = .returned (.int .i64 (Lib.bitLen x.toNat)) ∧ w' = w := by
  have dy : decide ((4294967296 : Int) ≤ x) = false := decide_eq_false (by omega)
  have dz : decide ((65536 : Int) ≤ x) = true := decide_eq_true cz
  have du : decide ((256 : Int) ≤ z) = true := decide_eq_true cu
  have i0 : 0 ≤ u := by omega
  have i1 : u ≤ 255 := by omega
  have i2 : u % 256 = u := by omega
  have hrun := fun (W : World) => Lib.run_index_len8tab (P := Try.prog) (w := W) 9 .u8 u Try.underlying9 i0 i1
  obtain ⟨L, l1, l2, l3⟩ := pf_24 x (u) (by omega) (by omega) i0 i1 (by omega)
  obtain ⟨R, hR⟩ : ∃ R, R = Lib.bitLen x.toNat := ⟨_, rfl⟩
  rw [← hR] at l3 ⊢
  have HH := Aside0.mk (And.intro l2 l3)
  have hrun2 : ∀ W : World, (Instr.index 9 (.string Lib.len8tab) (.int .u8 u)).run Try.prog W = .ok (.int .u8 (L : Int)) W := fun W => by rw [hrun W, l1]
  clear hrun l1 l2 l3 hR h0 h1
  go_enter Try.func29, Try.ntmps29
  go_wp2
  go_ret
  refine ⟨congrArg Ending.returned (congrArg (Value.int IntKind.i64) ?_), rfl⟩
  exact fin24 HH.out.1 HH.out.2
set_option maxHeartbeats 4000000 in
set_option maxRecDepth 100000 in
theorem len_010 (x z : Int) (w : World) (h0 : 0 ≤ x) (h1 : x ≤ 18446744073709551615) (cy : x < 4294967296) (cz : 65536 ≤ x) (ez : x / 65536 = z) (cu : z < 256) : Calls Try.prog 29 #[.int .u64 x] w fun e w' => e = .returned (.int .i64 (Lib.bitLen x.toNat)) ∧ w' = w := by
  have dy : decide ((4294967296 : Int) ≤ x) = false := decide_eq_false (by omega)
  have dz : decide ((65536 : Int) ≤ x) = true := decide_eq_true cz
  have du : decide ((256 : Int) ≤ z) = false := decide_eq_false (by omega)
  have i0 : 0 ≤ z := by omega
  have i1 : z ≤ 255 := by omega
  have i2 : z % 256 = z := by omega
  have hrun := fun (W : World) => Lib.run_index_len8tab (P := Try.prog) (w := W) 9 .u8 z Try.underlying9 i0 i1
  obtain ⟨L, l1, l2, l3⟩ := pf_16 x (z) (by omega) (by omega) i0 i1 (by omega)
  obtain ⟨R, hR⟩ : ∃ R, R = Lib.bitLen x.toNat := ⟨_, rfl⟩
  rw [← hR] at l3 ⊢
  have HH := Aside0.mk (And.intro l2 l3)
  have hrun2 : ∀ W : World, (Instr.index 9 (.string Lib.len8tab) (.int .u8 z)).run Try.prog W = .ok (.int .u8 (L : Int)) W := fun W => by rw [hrun W, l1]
  clear hrun l1 l2 l3 hR h0 h1
  go_enter Try.func29, Try.ntmps29
  go_wp2
  go_ret
  refine ⟨congrArg Ending.returned (congrArg (Value.int IntKind.i64) ?_), rfl⟩
  exact fin16 HH.out.1 HH.out.2
set_option maxHeartbeats 4000000 in
set_option maxRecDepth 100000 in
theorem len_001 (x u : Int) (w : World) (h0 : 0 ≤ x) (h1 : x ≤ 18446744073709551615) (cy : x < 4294967296) (cz : x < 65536) (cu : 256 ≤ x) (eu : x / 256 = u) : Calls Try.prog 29 #[.int .u64 x] w fun e w' => e = .returned (.int .i64 (Lib.bitLen x.toNat)) ∧ w' = w := by
  have dy : decide ((4294967296 : Int) ≤ x) = false := decide_eq_false (by omega)
  have dz : decide ((65536 : Int) ≤ x) = false := decide_eq_false (by omega)
  have du : decide ((256 : Int) ≤ x) = true := decide_eq_true cu
  have i0 : 0 ≤ u := by omega
  have i1 : u ≤ 255 := by omega
  have i2 : u % 256 = u := by omega
  have hrun := fun (W : World) => Lib.run_index_len8tab (P := Try.prog) (w := W) 9 .u8 u Try.underlying9 i0 i1
  obtain ⟨L, l1, l2, l3⟩ := pf_8 x (u) (by omega) (by omega) i0 i1 (by omega)
  obtain ⟨R, hR⟩ : ∃ R, R = Lib.bitLen x.toNat := ⟨_, rfl⟩
  rw [← hR] at l3 ⊢
  have HH := Aside0.mk (And.intro l2 l3)
  have hrun2 : ∀ W : World, (Instr.index 9 (.string Lib.len8tab) (.int .u8 u)).run Try.prog W = .ok (.int .u8 (L : Int)) W := fun W => by rw [hrun W, l1]
  clear hrun l1 l2 l3 hR h0 h1
  go_enter Try.func29, Try.ntmps29
  go_wp2
  go_ret
  refine ⟨congrArg Ending.returned (congrArg (Value.int IntKind.i64) ?_), rfl⟩
  exact fin8 HH.out.1 HH.out.2
set_option maxHeartbeats 4000000 in
set_option maxRecDepth 100000 in
theorem len_000 (x  : Int) (w : World) (h0 : 0 ≤ x) (h1 : x ≤ 18446744073709551615) (cy : x < 4294967296) (cz : x < 65536) (cu : x < 256) : Calls Try.prog 29 #[.int .u64 x] w fun e w' => e = .returned (.int .i64 (Lib.bitLen x.toNat)) ∧ w' = w := by
  have dy : decide ((4294967296 : Int) ≤ x) = false := decide_eq_false (by omega)
  have dz : decide ((65536 : Int) ≤ x) = false := decide_eq_false (by omega)
  have du : decide ((256 : Int) ≤ x) = false := decide_eq_false (by omega)
  have i0 : 0 ≤ x := by omega
  have i1 : x ≤ 255 := by omega
  have i2 : x % 256 = x := by omega
  have hrun := fun (W : World) => Lib.run_index_len8tab (P := Try.prog) (w := W) 9 .u8 x Try.underlying9 i0 i1
  obtain ⟨L, l1, l2, l3⟩ := pf_0 x (x) (by omega) (by omega) i0 i1 (by omega)
  obtain ⟨R, hR⟩ : ∃ R, R = Lib.bitLen x.toNat := ⟨_, rfl⟩
  rw [← hR] at l3 ⊢
  have HH := Aside0.mk (And.intro l2 l3)
  have hrun2 : ∀ W : World, (Instr.index 9 (.string Lib.len8tab) (.int .u8 x)).run Try.prog W = .ok (.int .u8 (L : Int)) W := fun W => by rw [hrun W, l1]
  clear hrun l1 l2 l3 hR h0 h1
  go_enter Try.func29, Try.ntmps29
  go_wp2
  go_ret
  refine ⟨congrArg Ending.returned (congrArg (Value.int IntKind.i64) ?_), rfl⟩
  exact fin0 HH.out.1 HH.out.2
theorem len64 (x : Int) (w : World) (h0 : 0 ≤ x) (h1 : x ≤ 18446744073709551615) : Calls Try.prog 29 #[.int .u64 x] w fun e w' => e = .returned (.int .i64 (Lib.bitLen x.toNat)) ∧ w' = w := by
  rcases Int.lt_or_le x 4294967296 with a | a
  · rcases Int.lt_or_le x 65536 with b | b
    · rcases Int.lt_or_le x 256 with c | c
      · exact len_000 x w h0 h1 a b c
      · exact len_001 x _ w h0 h1 a b c rfl
    · rcases Int.lt_or_le (x / 65536) 256 with c | c
      · exact len_010 x _ w h0 h1 a b rfl c
      · exact len_011 x _ _ w h0 h1 a b rfl c rfl
  · rcases Int.lt_or_le (x / 4294967296) 65536 with b | b
    · rcases Int.lt_or_le (x / 4294967296) 256 with c | c
      · exact len_100 x _ w h0 h1 a rfl b c
      · exact len_101 x _ _ w h0 h1 a rfl b c rfl
    · rcases Int.lt_or_le (x / 4294967296 / 65536) 256 with c | c
      · exact len_110 x _ _ w h0 h1 a rfl b rfl c
      · exact len_111 x _ _ _ w h0 h1 a rfl b rfl c rfl
end Go.Proofs.Ytdaelbihfdlgkaa.Nk
