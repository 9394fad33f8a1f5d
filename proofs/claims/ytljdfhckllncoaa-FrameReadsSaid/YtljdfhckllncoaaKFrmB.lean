import Derived.Test.YtljdfhckllncoaaKFrmW
import Derived.Test.YtljdfhckllncoaaKLive
import Derived.Deep.QuietTactic
import Derived.BigQuiet
namespace Go.Proofs.YtljdfhckllncoaaK
open Go.RowKit
set_option linter.unusedSimpArgs false
set_option linter.unusedVariables false
theorem run_index_arr {P : Program} {t e : TypeId} {n k : Nat} {cs : Array Value} {v : Value} {w : World} {i : TypeInfo} (hu : P.underlying t = some (.array n e)) (he : P.underlying e = some (.int .u8)) (hi : P.info? e = some i) (hs : i.size = 1) (hk : k < n) (hget : cs[k]? = some v) :
    (Instr.index t (.agg cs) (.int .i64 (k : Int))).run P w = .ok v w := by
  have h1 : ((k : Int) < (n : Int)) := by omega
  have h2 : ¬ n ≤ k := by omega
  simp [Instr.index, h2, asIntOf, Sem.run_bind, run_underlying hu, h1, Result.andThen, sizeOf, typeInfo, hi, hs, part, isAgg, run_underlying he, hget]
set_option maxRecDepth 100000 in
theorem not_all8 : ∀ x : Fin 256, bits .xor .u8 IntKind.u8.max (x.val : Int) = ((255 - x.val : Nat) : Int) := by decide +kernel
/-- How many of the first bytes' bits are 0. -/
def zer (bs : List UInt8) : Nat → Nat
  | 0 => 0
  | k + 1 => zer bs k + Lib.onesCount (255 - (bs.getD k 0).toNat)
set_option maxRecDepth 100000 in
theorem ones_le8 : ∀ x : Fin 256, Lib.onesCount x.val ≤ 8 := by decide +kernel
theorem zer_le (bs : List UInt8) : ∀ k, zer bs k ≤ 8 * k := by
  intro k
  induction k with
  | zero => exact Nat.le_refl _
  | succ k ih =>
    have h := ones_le8 ⟨255 - (bs.getD k 0).toNat, by omega⟩
    simp only at h
    unfold zer
    omega
def blankB (bs : List UInt8) : Bool := decide (zer bs 258 ≤ 1)
set_option maxRecDepth 100000 in
set_option maxHeartbeats 4000000 in
theorem blank_any (bs : List UInt8) (hl : bs.length = 258) (w : World) :
    Calls Try.prog 17 #[.agg (bs.map encB).toArray] w fun e w' => e = .returned (.bool (blankB bs)) ∧ Below w.heap.size w w' := by
  have HO := Lib.hid (fun (x : Nat) (hx : x < 256) W => by have h := Try.bits_OnesCount8 (x : Int) W (by omega) (by omega); rw [Int.toNat_natCast] at h; exact h)
  obtain ⟨L, hL⟩ : ∃ L, L = bs.map encB := ⟨_, rfl⟩
  have hLl : L.length = 258 := by rw [hL, List.length_map]; exact hl
  have hLc : ∀ k, k < 258 → L[k]? = some (.int .u8 ((bs.getD k 0).toNat : Int)) := fun k hk => by rw [hL]; exact encB_cell bs k (by omega)
  rw [← hL]
  have HI := Lib.hid (show (Try.prog.info? 26).map (·.size) = some L.length by rw [hLl]; exact page_info)
  have HLC := Lib.hid hLc
  have HLL := Lib.hid hLl
  clear hL hLc hLl hl
  have hR : Rows w [(w.heap.size, L)] (w.alloc (.cells L.toArray 26)) := (Rows.nil w).newL L _
  have hA := hR.get (b := w.heap.size) (L := L) (by simp)
  go_enter Try.func17, Try.ntmps17
  go_wp2_with (first
    | (refine wpList_load_mid rfl 26 _ rfl w.heap.size 0 rfl L _ hA.1 Try.underlying26 rfl HI.out ?_)
    | (refine wp_load_mid 26 _ rfl w.heap.size 0 rfl L _ hA.1 Try.underlying26 rfl HI.out ?_))
  have hbb := hR.below
  clear hA hR
  go_loopw [3, 5, 7] (fun v3 v5 i wr => ∃ k z : Nat, k ≤ 258 ∧ z = zer bs k ∧ i = .int .i64 k ∧ v3 = .int .i64 (z : Int) ∧ Below w.heap.size w wr) (fun _ _ i _ => 258 - (intOf i).toNat)
  case atStart => exact ⟨0, 0, by omega, rfl, rfl, rfl, hbb⟩
  case round =>
    obtain ⟨k, z, hk, hz, rfl, rfl, hb⟩ := hrel
    have hz9 := zer_le bs k
    rw [← hz] at hz9
    have HZ := Lib.hid hz
    clear hz hbb
    by_cases hlt : k < 258
    · obtain ⟨x, hx⟩ : ∃ x, x = (bs.getD k 0).toNat := ⟨_, rfl⟩
      have hc := HLC.out k hlt
      rw [← hx] at hc
      have hx8 : x < 256 := by rw [hx]; exact (bs.getD k 0).toNat_lt
      have hnx : zer bs (k + 1) = z + Lib.onesCount (255 - x) := by rw [HZ.out, hx]; rfl
      have HNX := Lib.hid hnx
      have hk1 : (k : Int) < 258 := by omega
      have hk0 : (0 : Int) ≤ k := by omega
      have hkl : k < L.toArray.size := by rw [List.size_toArray, HLL.out]; exact hlt
      have hget : L.toArray[k]? = some (.int .u8 (x : Int)) := by rw [List.getElem?_toArray]; exact hc
      obtain ⟨i5, hi5⟩ : ∃ i, Try.prog.info? 5 = some i := by
        cases h : Try.prog.info? 5 with
        | none => have := info_u8; rw [h] at this; cases this
        | some i => exact ⟨i, rfl⟩
      have hi1 : i5.size = 1 := by have := info_u8; rw [hi5] at this; simp at this; exact this.2.1
      have hidx := fun W => run_index_arr (P := Try.prog) (w := W) Try.underlying26 Try.underlying5 hi5 hi1 hlt hget
      clear hnx hx hc hi5 hi1 hget
      have hs0 : IntKind.u8.signed = false := rfl
      have hxr := not_all8 ⟨x, hx8⟩
      simp only at hxr
      obtain ⟨y, hy⟩ : ∃ y, y = 255 - x := ⟨_, rfl⟩
      have hy8 : y < 256 := by omega
      obtain ⟨q, hq⟩ : ∃ q, q = Lib.onesCount y := ⟨_, rfl⟩
      have hq8 : q ≤ 8 := by rw [hq]; exact ones_le8 ⟨y, hy8⟩
      have HO1 := Lib.hid (fun W => HO.out y hy8 W)
      rw [← hq] at HO1
      rw [← hy] at hxr
      have HNX2 : Hid (zer bs (k + 1) = z + q) := Lib.hid (by rw [HNX.out, ← hy, ← hq])
      clear hy hq HNX
      go_wp2_with (go_at_call 47; refine (HO1.out _).mono ?_; rintro e w2 ⟨rfl, rfl⟩)
      go_roundw
      case rel => exact ⟨k + 1, z + q, by omega, HNX2.out.symm, by go_num, by go_num, hb⟩
      case measure => simp [intOf]; omega
    · obtain rfl : k = 258 := by omega
      go_wp2_with fail
      go_ret
      refine ⟨?_, hb⟩
      unfold blankB
      rw [← HZ.out]
      show Ending.returned (Value.bool (decide ((z : Int) ≤ 1))) = _
      congr 2
      rw [decide_eq_decide]
      omega
/-- The zeros among the lowest bits of a byte. -/
def zb (x : Nat) : Nat → Nat
  | 0 => 0
  | j + 1 => zb x j + (1 - bitN x j)
set_option maxRecDepth 100000 in
theorem zb_all : ∀ x : Fin 256, zb x.val 8 = Lib.onesCount (255 - x.val) := by decide +kernel
theorem zb_le (x : Nat) : ∀ j, zb x j ≤ j := by
  intro j
  induction j with
  | zero => exact Nat.le_refl _
  | succ j ih => unfold zb; omega
set_option maxRecDepth 100000 in
set_option maxHeartbeats 4000000 in
theorem rblank_any (bs : List UInt8) (hl : bs.length = 258) (w : World) :
    Calls Try.prog 19 #[.agg (bs.map encB).toArray] w fun e w' => e = .returned (.bool (blankB bs)) ∧ Below w.heap.size w w' := by
  obtain ⟨L, hL⟩ : ∃ L, L = bs.map encB := ⟨_, rfl⟩
  have hLl : L.length = 258 := by rw [hL, List.length_map]; exact hl
  have hLc : ∀ k, k < 258 → L[k]? = some (.int .u8 ((bs.getD k 0).toNat : Int)) := fun k hk => by rw [hL]; exact encB_cell bs k (by omega)
  rw [← hL]
  have HLC := Lib.hid hLc
  clear hL hLc hLl hl
  obtain ⟨W, hW⟩ : ∃ W, W = w.alloc (.cells L.toArray 26) := ⟨_, rfl⟩
  obtain ⟨xb, hxb⟩ : ∃ xb, xb = w.heap.size := ⟨_, rfl⟩
  have hR : Rows w [(xb, L)] W := by rw [hW, hxb]; exact (Rows.nil w).newL L _
  go_enter Try.func19, Try.ntmps19
  go_wp2_with fail
  rw [← hW]
  simp only [← hxb]
  clear hW hxb
  go_loopw [3, 4, 5] (fun v3 i v5 wr => ∃ k z : Nat, k ≤ 258 ∧ z = zer bs k ∧ i = .int .i64 k ∧ v3 = .int .i64 (z : Int) ∧ Rows w [(xb, L)] wr) (fun _ i _ _ => 258 - (intOf i).toNat)
  case atStart => exact ⟨0, 0, by omega, rfl, rfl, rfl, hR⟩
  case round =>
    obtain ⟨k, z, hk, hz, rfl, rfl, hR1⟩ := hrel
    have hz9 := zer_le bs k
    rw [← hz] at hz9
    have HZ := Lib.hid hz
    clear hz hR
    by_cases hlt : k < 258
    · obtain ⟨x, hx⟩ : ∃ x, x = (bs.getD k 0).toNat := ⟨_, rfl⟩
      have hc := HLC.out k hlt
      rw [← hx] at hc
      have hx8 : x < 256 := by rw [hx]; exact (bs.getD k 0).toNat_lt
      have hnx : zer bs (k + 1) = z + zb x 8 := by
        have hza := zb_all ⟨x, hx8⟩
        simp only at hza
        rw [hza, HZ.out, hx]; rfl
      have HNX := Lib.hid hnx
      have hk1 : (k : Int) < 258 := by omega
      have hk0 : (0 : Int) ≤ k := by omega
      have HC := Lib.hid hc
      clear hnx hx hc
      obtain ⟨wo, hwo⟩ : ∃ wo : World, wo = wr := ⟨_, rfl⟩
      go_wp2_with fail
      rw [← hwo] at hR1
      rw [← hwo]
      clear hwo
      go_loopw [3, 5] (fun v3 v5 wr => ∃ m y : Nat, m ≤ 8 ∧ y = z + zb x m ∧ v5 = .int .i64 m ∧ v3 = .int .i64 (y : Int) ∧ Rows w [(xb, L)] wr) (fun _ v5 _ => 8 - (intOf v5).toNat)
      case atStart => exact ⟨0, z, by omega, rfl, rfl, rfl, hR1⟩
      case round =>
        obtain ⟨m, y, hm, hy, rfl, rfl, hR2⟩ := hrel
        clear hR1
        have hy9 : y ≤ 8 * 258 + 8 := by have := zb_le x m; omega
        have HY := Lib.hid hy
        clear hy
        by_cases hm8 : m < 8
        · have hAx := hR2.get (b := xb) (L := L) (by simp)
          have hcx := hAx.at_ k _ HC.out
          have hlo := (low_all ⟨x, hx8⟩ ⟨m, hm8⟩).1
          simp only at hlo
          have hb01 := bitN_01 x m
          have hnx2 : zb x (m + 1) = zb x m + (1 - bitN x m) := rfl
          obtain ⟨b, hb⟩ : ∃ b, b = bitN x m := ⟨_, rfl⟩
          rw [← hb] at hlo hb01 hnx2
          have HN2 := Lib.hid hnx2
          have hm1 : (m : Int) < 8 := by omega
          have hm0 : (0 : Int) ≤ m := by omega
          have hx0 : (0 : Int) ≤ x := by omega
          have hx9 : (x : Int) < 256 := by omega
          clear hb hnx2
          rcases hb01 with rfl | rfl
          · go_wp2_with fail
            go_roundw
            case rel => exact ⟨m + 1, y + 1, by omega, by rw [HN2.out, HY.out]; omega, by go_num, by go_num, hR2⟩
            case measure => simp [intOf]; omega
          · go_wp2_with fail
            go_roundw
            case rel => exact ⟨m + 1, y, by omega, by rw [HN2.out, HY.out]; omega, by go_num, rfl, hR2⟩
            case measure => simp [intOf]; omega
        · obtain rfl : m = 8 := by omega
          go_wp2_with fail
          go_roundw
          case rel => exact ⟨k + 1, y, by omega, by rw [HNX.out, HY.out], by go_num, rfl, hR2⟩
          case measure => simp [intOf]; omega
    · obtain rfl : k = 258 := by omega
      go_wp2_with fail
      go_ret
      refine ⟨?_, hR1.below⟩
      unfold blankB
      rw [← HZ.out]
      show Ending.returned (Value.bool (decide ((z : Int) < 2))) = _
      congr 2
      rw [decide_eq_decide]
      omega
end Go.Proofs.YtljdfhckllncoaaK
