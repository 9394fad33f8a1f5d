import Derived.Test.YtljdfhckllncoaaKHamL
import Derived.Lib.BitFns
namespace Go.Proofs.YtljdfhckllncoaaK
open Go.RowKit
set_option linter.unusedSimpArgs false
set_option linter.unusedVariables false
theorem u16_and_low (k : Nat) (hk : k ≤ 13) (x : Nat) (hx : x < 65536) : bits .and .u16 (x : Int) ((2 ^ k - 1 : Nat) : Int) = ((x % 2 ^ k : Nat) : Int) := by
  have hp : 2 ^ k ≤ 2 ^ 13 := Nat.pow_le_pow_right (by decide) hk
  have hp0 : 0 < 2 ^ k := Nat.pow_pos (by decide)
  have hm : x % 2 ^ k < 2 ^ k := Nat.mod_lt _ hp0
  show IntKind.u16.wrap (((BitVec.ofInt 16 (x : Int)) &&& (BitVec.ofInt 16 ((2 ^ k - 1 : Nat) : Int))).toNat : Int) = _
  rw [BitVec.ofInt_natCast, BitVec.ofInt_natCast, BitVec.toNat_and, BitVec.toNat_ofNat, BitVec.toNat_ofNat, Nat.mod_eq_of_lt (by omega), Nat.mod_eq_of_lt (by omega), Nat.and_two_pow_sub_one_eq_mod, IntKind.wrap_u16]
  omega
/-- How many of 16 bits are set. -/
def pc16 (x : Nat) : Nat := (Lib.pop8 ((x / 256 : Nat) : Int) + Lib.pop8 ((x % 256 : Nat) : Int)).toNat
set_option maxRecDepth 100000 in
theorem pop8_le : ∀ y : Fin 256, 0 ≤ Lib.pop8 (y.val : Int) ∧ Lib.pop8 (y.val : Int) ≤ 8 := by decide +kernel
theorem ones16 (x : Nat) (hx : x < 8192) (w : World) : Calls Try.prog 43 #[.int .u16 (x : Int)] w fun e w' => e = .returned (.int .i64 (pc16 x : Int)) ∧ Below w.heap.size w w' := by
  have h0 : (0 : Int) ≤ x := by omega
  have h1 : (x : Int) < 8192 := by omega
  obtain ⟨q, hq⟩ : ∃ q, q = x / 256 := ⟨_, rfl⟩
  obtain ⟨r, hr⟩ : ∃ r, r = x % 256 := ⟨_, rfl⟩
  have hqi : (x : Int) / 256 = (q : Int) := by omega
  have hand : bits .and .u16 (x : Int) 255 = (r : Int) := by rw [hr]; exact u16_and_low 8 (by decide) x (by omega)
  have hql : q < 256 := by omega
  have hrl : r < 256 := by omega
  have a1 := pop8_le ⟨q, hql⟩
  have a2 := pop8_le ⟨r, hrl⟩
  have hp : (pc16 x : Int) = Lib.pop8 (q : Int) + Lib.pop8 (r : Int) := by
    unfold pc16
    rw [← hq, ← hr]
    simp only at a1 a2
    omega
  obtain ⟨u, hu⟩ : ∃ u, u = Lib.pop8 (q : Int) := ⟨_, rfl⟩
  obtain ⟨v, hv⟩ : ∃ v, v = Lib.pop8 (r : Int) := ⟨_, rfl⟩
  simp only at a1 a2
  rw [← hu] at a1 hp
  rw [← hv] at a2 hp
  have hu' := hu.symm
  have hv' := hv.symm
  have HP := Lib.hid hp
  have e1 : IntKind.u8.wrap (u + v) = u + v := by rw [IntKind.wrap_u8]; omega
  have e2 : IntKind.i64.wrap (u + v) = u + v := by rw [IntKind.wrap_i64]; omega
  have b1 : (q : Int) ≤ 255 := by omega
  have b2 : (r : Int) ≤ 255 := by omega
  clear hq hr hu hv hp
  go_enter Try.func43, Try.ntmps43
  go_wp2
  go_quiet (fail)
  go_wp2
  go_ret
  exact ⟨by rw [HP.out]; rfl, below_drewN' (Below.refl _ _)⟩
end Go.Proofs.YtljdfhckllncoaaK
