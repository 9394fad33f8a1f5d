import Derived.Test.YtljdfhckllncoaaKHamC
import Derived.Laws.Rows
namespace Go.Proofs.YtljdfhckllncoaaK
open Go.RowKit
set_option linter.unusedSimpArgs false
set_option linter.unusedVariables false
def isP (n : Nat) : Bool := decide (2 ^ Nat.log2 n = n)
set_option maxRecDepth 100000 in
theorem isP_all : ∀ n : Fin 4100, (1 < n.val ∧ n.val % 2 = 0 → isP (n.val / 2) = isP n.val) ∧ (1 < n.val ∧ n.val % 2 = 1 → isP n.val = false) := by decide +kernel
theorem rpower_any (n : Nat) (h1 : 1 ≤ n) (hn : n < 4100) (w : World) : Calls Try.prog 59 #[.int .i64 (n : Int)] w fun e w' => e = .returned (.bool (isP n)) ∧ w = w' := by
  have h0 : (1 : Int) ≤ n := by omega
  go_enter Try.func59, Try.ntmps59
  go_wp2
  go_loopw [3] (fun v3 wr => ∃ x : Nat, 1 ≤ x ∧ x < 4100 ∧ isP x = isP n ∧ v3 = .int .i64 (x : Int) ∧ wr = w) (fun v3 _ => (intOf v3).toNat)
  case atStart => exact ⟨n, h1, hn, rfl, rfl, rfl⟩
  case round =>
    obtain ⟨x, hx1, hx2, hp, rfl, rfl⟩ := hrel
    have hx0 : (1 : Int) ≤ x := by omega
    have ha := isP_all ⟨x, hx2⟩
    by_cases h1x : 1 < x
    · by_cases he : x % 2 = 0
      · have hq := ha.1 ⟨h1x, he⟩
        have HQ := Lib.hid (hq.trans hp)
        obtain ⟨y, hy⟩ : ∃ y, y = x / 2 := ⟨_, rfl⟩
        have hd : (x : Int).tdiv 2 = (y : Int) := by rw [hy]; rfl
        have hm : (x : Int).tmod 2 = 0 := by
          have : (x : Int).tmod 2 = ((x % 2 : Nat) : Int) := rfl
          rw [this, he]; rfl
        have hd2 : (x : Int) / 2 = (y : Int) := by omega
        have hm2 : (x : Int) % 2 = 0 := by omega
        have h1i : (1 : Int) < x := by omega
        have hy2 : 1 ≤ y ∧ y < x := by omega
        have HQ2 : Hid (isP y = isP n) := Lib.hid (by rw [hy]; exact HQ.out)
        clear ha hp hq hy he
        go_wp2
        go_roundw
        case rel => exact ⟨y, hy2.1, Nat.lt_trans hy2.2 hx2, HQ2.out, rfl, trivial⟩
        case measure => simp [intOf]; omega
      · have hod : x % 2 = 1 := by omega
        have hq := ha.2 ⟨h1x, hod⟩
        have hm : (x : Int).tmod 2 = 1 := by
          have : (x : Int).tmod 2 = ((x % 2 : Nat) : Int) := rfl
          rw [this, show x % 2 = 1 from by omega]; rfl
        have h1i : (1 : Int) < x := by omega
        have hm2 : (x : Int) % 2 = 1 := by omega
        have hxe : ((x : Int) == 1) = false := by rw [beq_eq_false_iff_ne]; omega
        have HE : Hid (isP n = false) := Lib.hid (by rw [← hp]; exact hq)
        clear ha hp hq he
        go_wp2
        go_ret
        exact ⟨by rw [HE.out]; rfl, rfl⟩
    · obtain rfl : x = 1 := by omega
      have HE : Hid (isP n = true) := Lib.hid (by rw [← hp]; decide +kernel)
      clear ha hp
      go_wp2
      go_ret
      exact ⟨by rw [HE.out]; rfl, rfl⟩
theorem bitI (x j : Nat) (hx : x < 4096) : bits .and .i64 ((x : Int) / (2 : Int) ^ j) 1 = (bitN x j : Int) := by
  have e : (x : Int) / (2 : Int) ^ j = ((x / 2 ^ j : Nat) : Int) := by
    rw [Int.natCast_ediv]; congr 1
  rw [e, i64_and1 (x / 2 ^ j) (Nat.lt_of_le_of_lt (Nat.div_le_self _ _) hx)]
  rfl
set_option maxRecDepth 100000 in
theorem rbit_any (bs : List UInt8) (hl : bs.length = 256) (i : Nat) (hi : i < 2048) (w : World) :
    Calls Try.prog 60 #[.agg (bs.map encB).toArray, .int .i64 (i : Int)] w fun e w' => e = .returned (.int .i64 (dbit bs i : Int)) ∧ Below w.heap.size w w' := by
  obtain ⟨C, hC⟩ : ∃ C, C = (bs.map encB).toArray := ⟨_, rfl⟩
  have hD : Dat (w.alloc (.cells C 76)) w.heap.size bs := ⟨hl, 76, (0, 0), by rw [← hC]; exact heap_alloc_new w _⟩
  obtain ⟨q, hq⟩ : ∃ q, q = i / 8 := ⟨_, rfl⟩
  obtain ⟨r, hr⟩ : ∃ r, r = i % 8 := ⟨_, rfl⟩
  have hdi : (i : Int).tdiv 8 = (q : Int) := by rw [hq]; rfl
  have hmi : (i : Int).tmod 8 = (r : Int) := by rw [hr]; rfl
  have hc := hD.cell q (by omega)
  have hx8 := (bs.getD q 0).toNat_lt
  have hdb : dbit bs i = bitN (bs.getD q 0).toNat r := by unfold dbit; rw [← hq, ← hr]
  obtain ⟨x, hx⟩ : ∃ x, x = (bs.getD q 0).toNat := ⟨_, rfl⟩
  rw [← hx] at hc hx8 hdb
  have hbi := bitI x r (by omega)
  have HB := Lib.hid hdb
  rw [← hC]
  have hq2 : (q : Int) < 256 := by omega
  have hr2 : r < 8 := by omega
  clear hD hC hq hr hx hdb
  go_enter Try.func60, Try.ntmps60
  go_wp2
  go_ret
  exact ⟨by rw [HB.out]; rfl, (Below.refl _ _).alloc (Nat.le_refl _) _⟩
end Go.Proofs.YtljdfhckllncoaaK
