import Derived.Test.YtofjabejkcicjaaKWrt
import Derived.Deep.RegionHeld3
namespace Go.Proofs.YtofjabejkcicjaaK
open Go.RowKit
set_option linter.unusedSimpArgs false
set_option linter.unusedVariables false
/-! block.wipe. -/
/-- The pages when the first n of a block hold nothing. -/
def wiM (M : Nat → Nat → Nat → UInt8) (b n : Nat) (b' p i : Nat) : UInt8 := if b' = b ∧ p < n then 255 else M b' p i
theorem wiM_zero (M : Nat → Nat → Nat → UInt8) (b : Nat) : wiM M b 0 = M := by
  funext b' p i; unfold wiM; rw [if_neg (by omega)]
theorem wiM_step (M : Nat → Nat → Nat → UInt8) (b k : Nat) : updP (wiM M b k) b k (fun _ => 255) = wiM M b (k + 1) := by
  funext b' p i
  unfold updP wiM
  by_cases e : b' = b ∧ p = k
  · rw [if_pos e, if_pos (by omega)]
  · rw [if_neg e]
    by_cases e2 : b' = b ∧ p < k
    · rw [if_pos e2, if_pos (by omega)]
    · rw [if_neg e2, if_neg (by omega)]
set_option maxRecDepth 100000 in
set_option maxHeartbeats 4000000 in
theorem wipe_any (rb N b : Nat) (M : Nat → Nat → Nat → UInt8) (nx : Nat → Int) (bd : Nat → Bool) (n : Int) (hb : b < N) (w : World) (hR : Row w rb (2066 * N) (blkV M nx bd)) :
    Calls Try.prog 35 #[.pointer (some ⟨rb, b * 2066, none⟩), .int .i64 n] w fun e w' => (∃ u, e = .returned u) ∧ Row w' rb (2066 * N) (blkV (wiM M b (clampN n 8)) nx bd) ∧ Chg [rb] w w' := by
  obtain ⟨L, hL⟩ : ∃ L, L = pgL (fun _ => 255) := ⟨_, rfl⟩
  have hB := blank_any
  rw [← hL] at hB
  have HB := Lib.hid hB
  have H1L := Lib.hid (show ∀ (v : Value), v ∈ L → v.oneCell' = true by
    rw [hL]
    intro v hv
    obtain ⟨i, _, rfl⟩ := List.mem_map.1 hv
    rfl)
  have HIA := Lib.hid (show (Try.prog.info? 34).map (·.size) = some L.length by rw [hL, pgL_len]; exact page_info)
  have HLG := Lib.hid (fun i (hi : i < 258) => show L.getD i default = encB 255 by rw [hL]; exact pgL_get _ i hi)
  have HLL := Lib.hid (show L.length = 258 by rw [hL]; exact pgL_len _)
  obtain ⟨K, hK⟩ : ∃ K, K = clampN n 8 := ⟨_, rfl⟩
  have hmm := clampN_eq n 8
  rw [← hK] at hmm ⊢
  have hmm2 : min (max n 0) 8 = (K : Int) := hmm
  have hK8 : K ≤ 8 := by rw [hK]; exact clampN_le n 8
  clear hK hL hmm hB
  go_enter Try.func35, Try.ntmps35
  go_wp2_with fail
  clear hmm2
  go_loopw [4, 8] (fun v4 v8 wr => ∃ k : Nat, k ≤ K ∧ v8 = .int .i64 k ∧ Chg [rb] w wr ∧ Row wr rb (2066 * N) (blkV (wiM M b k) nx bd)) (fun _ v8 _ => 8 - (intOf v8).toNat)
  case atStart => exact ⟨0, by omega, rfl, Chg.refl _ _, by rw [wiM_zero]; exact hR⟩
  case round =>
    obtain ⟨k, hk, rfl, hC1, hR1⟩ := hrel
    clear hR
    by_cases hlt : k < K
    · have hk1 : (k : Int) < K := by omega
      have hk0 : (0 : Int) ≤ k := by omega
      have hk8 : (k : Int) < 8 := by omega
      have HC1 := Lib.hid hC1
      have HR1 := Lib.hid hR1
      have HN := Lib.hid hb
      have HTL := Lib.hid (show b * 2066 + k * 258 + L.length ≤ 2066 * N by have := HLL.out; omega)
      have HST := Lib.hid (fun w2 (h2 : Row w2 rb (2066 * N) (blkV (wiM M b k) nx bd)) => show Row (w2.setCells rb (b * 2066 + k * 258) L) rb (2066 * N) (blkV (wiM M b (k + 1)) nx bd) from (h2.sets L (b * 2066 + k * 258)).congr fun j hj => by
        have h := blkV_set_page (wiM M b k) nx bd b k (by omega) (fun _ => 255) L HLL.out HLG.out j
        rw [show b * 2066 + k * 258 = b * 2066 + 258 * k from by omega]
        rw [wiM_step] at h
        exact h)
      clear hC1 hR1 hb
      go_wp2_with fail
      go_region_held3 (fun w' => True) (trivial) (first | (go_at_call 54; refine (HB.out _).mono ?_; rintro e w2 ⟨rfl, hb2⟩; have hR2 := (HR1.out.below (Below.refl _ _).drew).below hb2; have hC2 := HC1.out.drew.trans (Chg.ofBelow hb2); have hT2 := hR2.there (b * 2066 + k * 258) L.length HTL.out; have hR3 := HST.out _ hR2; have hC3 := Chg.sets (S := [rb]) (b := rb) (by simp) L (b * 2066 + k * 258) hC2; have h1L := H1L.out; have hIA := HIA.out; clear hR2 hC2))
      go_wp2_with fail
      go_roundw
      case rel => exact ⟨k + 1, by omega, by go_num, hC3, hR3⟩
      case measure => simp [intOf]; omega
    · obtain rfl : k = K := by omega
      go_wp2_with fail
      go_end0
      exact ⟨⟨_, rfl⟩, hR1, hC1⟩
end Go.Proofs.YtofjabejkcicjaaK
